/- Contracts: causes; the laws' own first function. -/
import Derived.Test.YtbmfklmlgbbcaaaPermC
import Derived.Test.YtbmfklmlgbbcaaaPermG
namespace Go.Proofs.Ytbmfklmlgbbcaaa
open Go.RowKit

def causeV (a l0 l1 l2 : Int) : Int := if a == 0 then l0 else if a == 1 then l1 else if a == 2 then l2 else -1
theorem known_any (a : Int) (b : Bool) (W : World) (h : b = decide (0 ≤ a ∧ a ≤ 2)) :
    Calls Try.prog 22 #[.int .i64 a] W fun e w' => e = .returned (.bool b) ∧ W = w' := by
  rcases (show (0 ≤ a ∧ a ≤ 2) ∨ a < 0 ∨ 2 < a by omega) with h1 | h1 | h1
  · have e : b = true := by rw [h]; simpa using h1
    subst e
    obtain ⟨h1, h2⟩ := h1
    clear h
    go_enter Try.func22, Try.ntmps22
    go_wp2
    go_ret
    exact ⟨rfl, rfl⟩
  · have e : b = false := by rw [h]; simp; omega
    subst e
    clear h
    have h2 : decide (0 ≤ a) = false := by simp; omega
    go_enter Try.func22, Try.ntmps22
    go_wp2
    go_ret
    exact ⟨rfl, rfl⟩
  · have e : b = false := by rw [h]; simp; omega
    subst e
    clear h
    have h2 : decide (a ≤ 2) = false := by simp; omega
    have h3 : 0 ≤ a := by omega
    go_enter Try.func22, Try.ntmps22
    go_wp2
    go_ret
    exact ⟨rfl, rfl⟩
theorem of_any (a l0 l1 l2 : Int) (W : World) :
    Calls Try.prog 21 #[.int .i64 a, .agg #[.int .i64 l0, .int .i64 l1, .int .i64 l2]] W fun e w' => e = .returned (.int .i64 (causeV a l0 l1 l2)) ∧ W.alloc (.cells #[.int .i64 l0, .int .i64 l1, .int .i64 l2] 48) = w' := by
  rcases (show a = 0 ∨ a = 1 ∨ a = 2 ∨ (a < 0 ∨ 2 < a) by omega) with rfl | rfl | rfl | h
  iterate 3
    go_enter Try.func21, Try.ntmps21
    go_wp2_with (go_at_call 22; refine (known_any _ true _ (by decide)).mono ?_; rintro e w' ⟨rfl, rfl⟩)
    go_ret
    exact ⟨rfl, rfl⟩
  · have e : causeV a l0 l1 l2 = -1 := by
      unfold causeV
      rw [if_neg (by simp; omega), if_neg (by simp; omega), if_neg (by simp; omega)]
    rw [e]
    clear e
    have H := Lib.hid h
    clear h
    go_enter Try.func21, Try.ntmps21
    go_wp2_with (go_at_call 22; refine (known_any _ false _ (by have h := H.out; simp; omega)).mono ?_; rintro e w' ⟨rfl, rfl⟩)
    go_ret
    exact ⟨rfl, rfl⟩
theorem page_any (a : Int) (W : World) :
    Calls Try.prog 13 #[.int .i64 a] W fun e w' => e = .returned (.int .i64 (causeV a 12 13 15)) ∧ W.alloc (.cells #[.int .i64 12, .int .i64 13, .int .i64 15] 48) = w' := by
  go_enter Try.func13, Try.ntmps13
  go_wp2_with (go_at_call 21; refine (of_any _ _ _ _ _).mono ?_; rintro e w' ⟨rfl, rfl⟩)
  go_ret
  exact ⟨rfl, rfl⟩
theorem bound_any (a : Int) (W : World) :
    Calls Try.prog 15 #[.int .i64 a] W fun e w' => e = .returned (.int .i64 (causeV a 1 5 7)) ∧ W.alloc (.cells #[.int .i64 1, .int .i64 5, .int .i64 7] 48) = w' := by
  go_enter Try.func15, Try.ntmps15
  go_wp2_with (go_at_call 21; refine (of_any _ _ _ _ _).mono ?_; rintro e w' ⟨rfl, rfl⟩)
  go_ret
  exact ⟨rfl, rfl⟩
theorem align_any (a : Int) (W : World) :
    Calls Try.prog 16 #[.int .i64 a] W fun e w' => e = .returned (.int .i64 (causeV a 0 4 6)) ∧ W.alloc (.cells #[.int .i64 0, .int .i64 4, .int .i64 6] 48) = w' := by
  go_enter Try.func16, Try.ntmps16
  go_wp2_with (go_at_call 21; refine (of_any _ _ _ _ _).mono ?_; rintro e w' ⟨rfl, rfl⟩)
  go_ret
  exact ⟨rfl, rfl⟩
theorem rcause_any (a l0 l1 l2 : Int) (g c : Nat) (W : World) (h0 : W.cell? ⟨g, 0, none⟩ = some (.int .i64 l0)) (h1 : W.cell? ⟨g, 1, none⟩ = some (.int .i64 l1)) (h2 : W.cell? ⟨g, 2, none⟩ = some (.int .i64 l2)) :
    Calls Try.prog 14 #[.int .i64 a, .slice (some ⟨g, 0, none⟩) 3 c] W fun e w' => e = .returned (.int .i64 (causeV a l0 l1 l2)) ∧ W = w' := by
  rcases (show a = 0 ∨ a = 1 ∨ a = 2 ∨ a < 0 ∨ 2 < a by omega) with rfl | rfl | rfl | h | h
  · go_enter Try.func14, Try.ntmps14
    go_wp2
    all_goals (go_ret; exact ⟨rfl, rfl⟩)
  · go_enter Try.func14, Try.ntmps14
    go_wp2
    all_goals (go_ret; exact ⟨rfl, rfl⟩)
  · go_enter Try.func14, Try.ntmps14
    go_wp2
    all_goals (go_ret; exact ⟨rfl, rfl⟩)
  all_goals
    have e : causeV a l0 l1 l2 = -1 := by
      unfold causeV
      rw [if_neg (by simp; omega), if_neg (by simp; omega), if_neg (by simp; omega)]
    rw [e]
    clear e
  · go_enter Try.func14, Try.ntmps14
    go_wp2
    all_goals (go_ret; exact ⟨rfl, rfl⟩)
  · have h3 : decide (a < 0) = false := by simp; omega
    go_enter Try.func14, Try.ntmps14
    go_wp2
    all_goals (go_ret; exact ⟨rfl, rfl⟩)

theorem pte_cells {w : World} {g : Nat} {t : TypeId} {c0 c1 c2 c3 c4 c5 c6 c7 c8 c9 : Value} (h : Blk w g t #[c0, c1, c2, c3, c4, c5, c6, c7, c8, c9]) :
    w.cell? ⟨g, 0, none⟩ = some c0 ∧ w.cell? ⟨g, 1, none⟩ = some c1 ∧ w.cell? ⟨g, 2, none⟩ = some c2 ∧ w.cell? ⟨g, 3, none⟩ = some c3 ∧ w.cell? ⟨g, 4, none⟩ = some c4 ∧ w.cell? ⟨g, 5, none⟩ = some c5 ∧ w.cell? ⟨g, 6, none⟩ = some c6 ∧ w.cell? ⟨g, 7, none⟩ = some c7 ∧ w.cell? ⟨g, 8, none⟩ = some c8 ∧ w.cell? ⟨g, 9, none⟩ = some c9 :=
  ⟨h.cell 0, h.cell 1, h.cell 2, h.cell 3, h.cell 4, h.cell 5, h.cell 6, h.cell 7, h.cell 8, h.cell 9⟩
theorem mode_cells {w : World} {g : Nat} {t : TypeId} {c0 c1 c2 : Value} (h : Blk w g t #[c0, c1, c2]) :
    w.cell? ⟨g, 0, none⟩ = some c0 ∧ w.cell? ⟨g, 1, none⟩ = some c1 ∧ w.cell? ⟨g, 2, none⟩ = some c2 := ⟨h.cell 0, h.cell 1, h.cell 2⟩

theorem flags_first : flagsV ⟨#[118, 114, 45, 120, 117, 45, 97, 45]⟩ = .tuple #[.agg #[.bool true, .bool true, .bool false, .bool true, .bool true, .bool false, .bool true, .bool false, .int .i64 0, .int .u64 0], .bool true] := by kernel_rfl
theorem flags_first_size : (⟨#[118, 114, 45, 120, 117, 45, 97, 45]⟩ : ByteArray).size = 8 := rfl
theorem text_first : textB true true false true true false true false = ⟨#[118, 114, 45, 120, 117, 45, 97, 45]⟩ := rfl

set_option maxHeartbeats 4000000 in
theorem first_ok (w : World) :
    Calls Try.prog 7 #[] w fun e w' => e = .returned (.bool true) ∧ Below w.heap.size w w' := by
  go_enter Try.func7, Try.ntmps7
  go_wp2_with fail
  refine (flags_any _ _ flags_first_size).mono ?_
  rintro e w1 ⟨rfl, hb1⟩
  rw [flags_first]
  have HB1 := Lib.hid hb1
  clear hb1
  go_wp2_with fail
  refine (flags_size _ _ (by decide)).mono ?_
  rintro e w2 ⟨rfl, hb2⟩
  have s2 : w1.heap.size < w2.heap.size := by have := hb2.size; simp at this; omega
  have hp := (Blk.new w1 _ _).below hb2 (by simp)
  obtain ⟨p0, p1, p2, p3, p4, p5, p6, p7, p8, p9⟩ := pte_cells hp
  have HP := Lib.hid hp
  have HB2 := Lib.hid hb2
  clear hb2 hp
  go_wp2_with fail
  clear p0 p1 p2 p3 p4 p5 p6 p7 p8 p9
  refine (text_any _ _ _ _ _ _ _ _ _ _ _).mono ?_
  rintro e w3 ⟨rfl, hb3⟩
  rw [text_first]
  have s3 : w2.heap.size + 1 < w3.heap.size := by have := hb3.size; simp at this; omega
  have hp := Blk.below ((HP.out.alloc _).alloc _) hb3 (by simp; omega)
  have hm := Blk.below (Blkf.new_at (n := w2.heap.size + 1) _ _ _ _ (by simp)) hb3 (by simp)
  obtain ⟨p0, p1, p2, p3, p4, p5, p6, p7, p8, p9⟩ := pte_cells hp
  obtain ⟨m0, m1, m2⟩ := mode_cells hm
  have HP := Lib.hid hp
  have HM := Lib.hid hm
  have HB3 := Lib.hid hb3
  clear hb3 hp hm
  have ht : ((⟨#[118, 114, 45, 120, 117, 45, 97, 45]⟩ : ByteArray).toList == [118, 114, 45, 120, 117, 45, 97, 45]) = true := by rw [ByteArray.toList_mk]; rfl
  go_wp2_with fail
  clear p0 p1 p2 p3 p4 p5 p6 p7 p8 p9 m0 m1 m2
  refine (check_any _ _ _ _ _ _ _ _ _ _ _ _ _ _ _).mono ?_
  rintro e w4 ⟨rfl, hb⟩
  rw [show checkB true true false true true true false 1 true false false = true from rfl]
  have hz : w1.heap.size < w3.heap.size := HP.out.lt
  have hp := Blk.below HP.out hb HP.out.lt
  have hm := Blk.below HM.out hb HM.out.lt
  obtain ⟨p0, p1, p2, p3, p4, p5, p6, p7, p8, p9⟩ := pte_cells hp
  obtain ⟨m0, m1, m2⟩ := mode_cells hm
  clear HP HM hz
  have HP := Lib.hid hp
  have HM := Lib.hid hm
  have HB4 := Lib.hid hb
  clear hb hp hm
  go_wp2_with fail
  clear p0 p1 p2 p3 p4 p5 p6 p7 p8 p9 m0 m1 m2
  refine (check_any _ _ _ _ _ _ _ _ _ _ _ _ _ _ _).mono ?_
  rintro e w5 ⟨rfl, hb⟩
  rw [show checkB true true false true true true false 2 true false false = false from rfl]
  have hz : w1.heap.size < w4.heap.size := HP.out.lt
  have hp := Blk.below HP.out hb HP.out.lt
  have hm := Blk.below HM.out hb HM.out.lt
  obtain ⟨p0, p1, p2, p3, p4, p5, p6, p7, p8, p9⟩ := pte_cells hp
  obtain ⟨m0, m1, m2⟩ := mode_cells hm
  clear HP HM hz
  have HP := Lib.hid hp
  have HM := Lib.hid hm
  have HB5 := Lib.hid hb
  clear hb hp hm
  go_wp2_with fail
  clear p0 p1 p2 p3 p4 p5 p6 p7 p8 p9 m0 m1 m2
  refine (check_any _ _ _ _ _ _ _ _ _ _ _ _ _ _ _).mono ?_
  rintro e w6 ⟨rfl, hb⟩
  rw [show checkB true true false true true true false 1 false false false = false from rfl]
  have hz : w1.heap.size < w5.heap.size := HP.out.lt
  have hp := Blk.below HP.out hb HP.out.lt
  have hm := Blk.below HM.out hb HM.out.lt
  obtain ⟨p0, p1, p2, p3, p4, p5, p6, p7, p8, p9⟩ := pte_cells hp
  obtain ⟨m0, m1, m2⟩ := mode_cells hm
  clear HP HM hz
  have HP := Lib.hid hp
  have HM := Lib.hid hm
  have HB6 := Lib.hid hb
  clear hb hp hm
  go_wp2_with fail
  clear p0 p1 p2 p3 p4 p5 p6 p7 p8 p9 m0 m1 m2
  refine (check_any _ _ _ _ _ _ _ _ _ _ _ _ _ _ _).mono ?_
  rintro e w7 ⟨rfl, hb⟩
  rw [show checkB true true false true true true false 1 false true false = true from rfl]
  have hz : w1.heap.size < w6.heap.size := HP.out.lt
  have hp := Blk.below HP.out hb HP.out.lt
  have hm := Blk.below HM.out hb HM.out.lt
  obtain ⟨p0, p1, p2, p3, p4, p5, p6, p7, p8, p9⟩ := pte_cells hp
  obtain ⟨m0, m1, m2⟩ := mode_cells hm
  clear HP HM hz
  have HP := Lib.hid hp
  have HM := Lib.hid hm
  have HB7 := Lib.hid hb
  clear hb hp hm
  go_wp2_with fail
  clear p0 p1 p2 p3 p4 p5 p6 p7 p8 p9 m0 m1 m2
  refine (check_any _ _ _ _ _ _ _ _ _ _ _ _ _ _ _).mono ?_
  rintro e w8 ⟨rfl, hb⟩
  rw [show checkB true true false true true true false 0 false true false = false from rfl]
  have HB8 := Lib.hid hb
  clear hb
  go_wp2_with fail
  refine (page_any _ _).mono ?_
  rintro e w9 ⟨rfl, rfl⟩
  rw [show causeV 1 12 13 15 = 13 from rfl]
  go_wp2
  go_ret
  refine ⟨rfl, ?_⟩
  have b1 := HB1.out
  have b2 := (b1.alloc b1.size _).trans (HB2.out.mono (Nat.le_trans b1.size (by simp)))
  have b3 := ((b2.alloc b2.size _).alloc (Nat.le_trans b2.size (by simp)) _).trans (HB3.out.mono (Nat.le_trans b2.size (by simp; omega)))
  have b4 := b3.trans (HB4.out.mono b3.size)
  have b5 := b4.trans (HB5.out.mono b4.size)
  have b6 := b5.trans (HB6.out.mono b5.size)
  have b7 := b6.trans (HB7.out.mono b6.size)
  have b8 := b7.trans (HB8.out.mono b7.size)
  exact b8.alloc b8.size _
end Go.Proofs.Ytbmfklmlgbbcaaa
