/- Which messages are right. -/
import Derived.Test.YtkkgigdgbiklmaaDoorWordF
import Derived.Test.YtkkgigdgbiklmaaDoorSep
namespace Go.Proofs.YtkkgigdgbiklmaaDoor
open Go.RowKit

/-- A message's value. -/
def msV (k p nd h : Int) (s : Nat) (A : Option Addr) (m c : Nat) : Value := .agg #[.int .i64 k, .int .i64 p, .int .i64 nd, .int .i64 h, .int .u16 (s : Int), .slice A m c]
def carB (k : Int) : Bool := k == 3 || k == 4
def dataB (k : Int) (D : List Nat) : Bool := if carB k then decide (D.length ≤ 4096) && (D.length == 0 || !(D.getD (D.length - 1) 0 == 0)) else D.length == 0
def headB (k p nd h : Int) (s : Nat) : Bool := decide (1 ≤ k) && decide (k ≤ 6) && decide (0 ≤ p) && decide (p < 65536) && decide (0 ≤ nd) && decide (nd < 16) && decide (0 ≤ h) && decide (h ≤ 255) && (s == 0 || k == 4)
def rightM (k p nd h : Int) (s : Nat) (D : List Nat) : Bool := headB k p nd h s && dataB k D
theorem carries_any (k : Int) (W : World) : Calls Tryd.prog 36 #[.int .i64 k] W fun e w' => e = .returned (.bool (carB k)) ∧ W = w' := by
  unfold carB
  by_cases h3 : k = 3
  · subst h3
    go_enter Tryd.func36, Tryd.ntmps36
    go_wp2
    go_ret
    exact ⟨rfl, rfl⟩
  · have e3 : (k == 3) = false := by simpa using h3
    go_enter Tryd.func36, Tryd.ntmps36
    go_wp2
    go_ret
    rw [e3]
    exact ⟨by simp, rfl⟩
set_option maxHeartbeats 1000000 in
theorem data_any (k p nd h : Int) (s : Nat) (A : Option Addr) (D : List Nat) (m c : Nat) (W : World) (hB : Bts W A D) (hm : D.length = m) (hm2 : m ≤ 9223372036854775807) :
    Calls Tryd.prog 23 #[msV k p nd h s A m c] W fun e w' => e = .returned (.bool (dataB k D)) ∧ Below W.heap.size W w' := by
  have HE : Hid (Below W.heap.size W (W.alloc (.cells #[.int .i64 k, .int .i64 p, .int .i64 nd, .int .i64 h, .int .u16 (s : Int), .slice A m c] 27))) := Lib.hid ((Below.refl _ W).alloc (Nat.le_refl _) _)
  have HM := Lib.hid hm
  unfold dataB msV
  cases hc : carB k with
  | false =>
    have HC := Lib.hid hc
    clear hc hB hm
    go_enter Tryd.func23, Tryd.ntmps23
    go_wp2_with fail
    refine (carries_any k _).mono ?_
    rintro e w' ⟨rfl, rfl⟩
    rw [HC.out]
    go_wp2_with fail
    go_ret
    refine ⟨?_, HE.out⟩
    rw [HM.out]
    cases m with
    | zero => rfl
    | succ m => simp; omega
  | true =>
    have HC := Lib.hid hc
    by_cases h96 : m ≤ 4096
    · rcases Nat.eq_zero_or_pos m with h0 | h0
      · subst h0
        clear hc hB hm h96
        go_enter Tryd.func23, Tryd.ntmps23
        go_wp2_with fail
        refine (carries_any k _).mono ?_
        rintro e w' ⟨rfl, rfl⟩
        rw [HC.out]
        go_wp2_with fail
        go_ret
        refine ⟨?_, HE.out⟩
        rw [HM.out]
        rfl
      · obtain ⟨b, o, rfl, hcell⟩ := hB.2 (by omega)
        obtain ⟨q, hq⟩ : ∃ q, m = q + 1 := ⟨m - 1, by omega⟩
        have c0 := hcell q (by omega)
        have hlt := cell_lt c0
        have hd : D.getD (D.length - 1) 0 = D.getD q 0 := by rw [hm, hq]; rfl
        have HD := Lib.hid hd
        generalize D.getD q 0 = z at *
        have i1 : (m : Int) ≤ 4096 := by omega
        have i3 : ((m : Int) == 0) = false := by simp; omega
        have i4 : (q : Int) < (m : Int) := by omega
        have i5 : wrap64 ((m : Int) - 1) = (q : Int) := by unfold wrap64; omega
        have i6 : (m : Int) - 1 = (q : Int) := by omega
        have HQ := Lib.hid hq
        clear hq h0
        clear hc hB hm hcell hd h96
        go_enter Tryd.func23, Tryd.ntmps23
        go_wp2_with fail
        refine (carries_any k _).mono ?_
        rintro e w' ⟨rfl, rfl⟩
        rw [HC.out]
        go_wp2_with fail
        go_ret
        refine ⟨?_, HE.out⟩
        rw [← List.getD_eq_getElem?_getD, HD.out, HM.out]
        have hq := HQ.out
        rw [decide_eq_true (by omega : m ≤ 4096), show (m == 0) = false by simp; omega]
        congr 2
        cases z <;> simp <;> omega
    · have h96' : ¬ ((m : Int) ≤ 4096) := by omega
      clear hc hB hm
      go_enter Tryd.func23, Tryd.ntmps23
      go_wp2_with fail
      refine (carries_any k _).mono ?_
      rintro e w' ⟨rfl, rfl⟩
      rw [HC.out]
      go_wp2_with fail
      go_ret
      refine ⟨?_, HE.out⟩
      rw [HM.out]
      simp [h96]
set_option maxRecDepth 100000 in
set_option maxHeartbeats 2000000 in
theorem mright_any (k p nd h : Int) (s : Nat) (A : Option Addr) (D : List Nat) (m c : Nat) (W : World) (hB : Bts W A D) (hm : D.length = m) (hm2 : m ≤ 9223372036854775807) :
    Calls Tryd.prog 13 #[msV k p nd h s A m c] W fun e w' => e = .returned (.bool (rightM k p nd h s D)) ∧ Below W.heap.size W w' := by
  have HE : Hid (Below W.heap.size W (W.alloc (.cells #[.int .i64 k, .int .i64 p, .int .i64 nd, .int .i64 h, .int .u16 (s : Int), .slice A m c] 27))) := Lib.hid ((Below.refl _ W).alloc (Nat.le_refl _) _)
  have HBT := Lib.hid hB
  have HM := Lib.hid hm
  have HM2 := Lib.hid hm2
  unfold msV
  clear hB hm hm2
  by_cases g0 : k < 1
  · have HR : Hid (rightM k p nd h s D = false) := Lib.hid (by rw [Bool.eq_false_iff]; intro hr; simp [rightM, headB] at hr; omega)
    rw [HR.out]
    go_enter Tryd.func13, Tryd.ntmps13
    go_wp2_with fail
    go_ret
    exact ⟨rfl, HE.out⟩
  by_cases g1 : 6 < k
  · have HR : Hid (rightM k p nd h s D = false) := Lib.hid (by rw [Bool.eq_false_iff]; intro hr; simp [rightM, headB] at hr; omega)
    rw [HR.out]
    go_enter Tryd.func13, Tryd.ntmps13
    go_wp2_with fail
    go_ret
    exact ⟨rfl, HE.out⟩
  by_cases g2 : p < 0
  · have HR : Hid (rightM k p nd h s D = false) := Lib.hid (by rw [Bool.eq_false_iff]; intro hr; simp [rightM, headB] at hr; omega)
    rw [HR.out]
    go_enter Tryd.func13, Tryd.ntmps13
    go_wp2_with fail
    go_ret
    exact ⟨rfl, HE.out⟩
  by_cases g3 : 65536 ≤ p
  · have HR : Hid (rightM k p nd h s D = false) := Lib.hid (by rw [Bool.eq_false_iff]; intro hr; simp [rightM, headB] at hr; omega)
    rw [HR.out]
    go_enter Tryd.func13, Tryd.ntmps13
    go_wp2_with fail
    go_ret
    exact ⟨rfl, HE.out⟩
  by_cases g4 : nd < 0
  · have HR : Hid (rightM k p nd h s D = false) := Lib.hid (by rw [Bool.eq_false_iff]; intro hr; simp [rightM, headB] at hr; omega)
    rw [HR.out]
    go_enter Tryd.func13, Tryd.ntmps13
    go_wp2_with fail
    go_ret
    exact ⟨rfl, HE.out⟩
  by_cases g5 : 16 ≤ nd
  · have HR : Hid (rightM k p nd h s D = false) := Lib.hid (by rw [Bool.eq_false_iff]; intro hr; simp [rightM, headB] at hr; omega)
    rw [HR.out]
    go_enter Tryd.func13, Tryd.ntmps13
    go_wp2_with fail
    go_ret
    exact ⟨rfl, HE.out⟩
  by_cases g6 : h < 0
  · have HR : Hid (rightM k p nd h s D = false) := Lib.hid (by rw [Bool.eq_false_iff]; intro hr; simp [rightM, headB] at hr; omega)
    rw [HR.out]
    go_enter Tryd.func13, Tryd.ntmps13
    go_wp2_with fail
    go_ret
    exact ⟨rfl, HE.out⟩
  by_cases g7 : 255 < h
  · have HR : Hid (rightM k p nd h s D = false) := Lib.hid (by rw [Bool.eq_false_iff]; intro hr; simp [rightM, headB] at hr; omega)
    rw [HR.out]
    go_enter Tryd.func13, Tryd.ntmps13
    go_wp2_with fail
    go_ret
    exact ⟨rfl, HE.out⟩
  have HG : Hid (1 ≤ k ∧ k ≤ 6 ∧ 0 ≤ p ∧ p < 65536 ∧ 0 ≤ nd ∧ nd < 16 ∧ 0 ≤ h ∧ h ≤ 255) := Lib.hid ⟨by omega, by omega, by omega, by omega, by omega, by omega, by omega, by omega⟩
  by_cases gs : s ≠ 0 ∧ k ≠ 4
  · obtain ⟨gs0, gk4⟩ := gs
    have HR : Hid (rightM k p nd h s D = false) := Lib.hid (by rw [Bool.eq_false_iff]; intro hr; simp [rightM, headB] at hr; omega)
    rw [HR.out]
    have e1 : ((s : Int) == 0) = false := by simp; omega
    have e2 : (k == 4) = false := by simpa using gk4
    have e3 : ((s : Int) != 0) = true := by simp; omega
    have e4 : (k != 4) = true := by simpa using gk4
    clear gs0 gk4
    go_enter Tryd.func13, Tryd.ntmps13
    go_wp2_with fail
    go_ret
    exact ⟨rfl, HE.out⟩
  have HR : Hid (rightM k p nd h s D = dataB k D) := Lib.hid (by
    have hg := HG.out
    have hh : headB k p nd h s = true := by simp [headB]; omega
    unfold rightM
    rw [hh, Bool.true_and])
  rw [HR.out]
  have hsk : s = 0 ∨ (s ≠ 0 ∧ k = 4) := by omega
  rcases hsk with hs | ⟨hs, hk⟩
  · subst hs
    clear gs
    go_enter Tryd.func13, Tryd.ntmps13
    go_wp2_with fail
    refine (data_any k p nd h 0 A D m c _ (bts_below HBT.out ((Below.refl _ W).alloc (Nat.le_refl _) _)) HM.out HM2.out).mono ?_
    rintro e w' ⟨rfl, hb⟩
    have HB2 := Lib.hid (HE.out.trans (hb.mono HE.out.size))
    clear hb
    go_wp2_with fail
    go_ret
    exact ⟨rfl, HB2.out⟩
  · subst hk
    have e1 : ((s : Int) == 0) = false := by simp; omega
    have e3 : ((s : Int) != 0) = true := by simp; omega
    clear hs gs
    go_enter Tryd.func13, Tryd.ntmps13
    go_wp2_with fail
    refine (data_any 4 p nd h s A D m c _ (bts_below HBT.out ((Below.refl _ W).alloc (Nat.le_refl _) _)) HM.out HM2.out).mono ?_
    rintro e w' ⟨rfl, hb⟩
    have HB2 := Lib.hid (HE.out.trans (hb.mono HE.out.size))
    clear hb
    go_wp2_with fail
    go_ret
    exact ⟨rfl, HB2.out⟩
set_option maxRecDepth 100000 in
set_option maxHeartbeats 2000000 in
theorem rright_any (k p nd h : Int) (s : Nat) (A : Option Addr) (D : List Nat) (m c : Nat) (W : World) (hB : Bts W A D) (hm : D.length = m) (hm2 : m ≤ 9223372036854775807) :
    Calls Tryd.prog 12 #[msV k p nd h s A m c] W fun e w' => e = .returned (.bool (rightM k p nd h s D)) ∧ Below W.heap.size W w' := by
  have HE : Hid (Below W.heap.size W (W.alloc (.cells #[.int .i64 k, .int .i64 p, .int .i64 nd, .int .i64 h, .int .u16 (s : Int), .slice A m c] 27))) := Lib.hid ((Below.refl _ W).alloc (Nat.le_refl _) _)
  have HBT := Lib.hid hB
  have HM := Lib.hid hm
  have HM2 := Lib.hid hm2
  unfold msV
  clear hB hm hm2
  by_cases g0 : k < 1
  · have HR : Hid (rightM k p nd h s D = false) := Lib.hid (by rw [Bool.eq_false_iff]; intro hr; simp [rightM, headB] at hr; omega)
    rw [HR.out]
    go_enter Tryd.func12, Tryd.ntmps12
    go_wp2_with fail
    go_ret
    exact ⟨rfl, HE.out⟩
  by_cases g1 : 6 < k
  · have HR : Hid (rightM k p nd h s D = false) := Lib.hid (by rw [Bool.eq_false_iff]; intro hr; simp [rightM, headB] at hr; omega)
    rw [HR.out]
    go_enter Tryd.func12, Tryd.ntmps12
    go_wp2_with fail
    go_ret
    exact ⟨rfl, HE.out⟩
  by_cases g2 : p < 0
  · have HR : Hid (rightM k p nd h s D = false) := Lib.hid (by rw [Bool.eq_false_iff]; intro hr; simp [rightM, headB] at hr; omega)
    rw [HR.out]
    go_enter Tryd.func12, Tryd.ntmps12
    go_wp2_with fail
    go_ret
    exact ⟨rfl, HE.out⟩
  by_cases g3 : 65536 ≤ p
  · have HR : Hid (rightM k p nd h s D = false) := Lib.hid (by rw [Bool.eq_false_iff]; intro hr; simp [rightM, headB] at hr; omega)
    rw [HR.out]
    go_enter Tryd.func12, Tryd.ntmps12
    go_wp2_with fail
    go_ret
    exact ⟨rfl, HE.out⟩
  by_cases g4 : nd < 0
  · have HR : Hid (rightM k p nd h s D = false) := Lib.hid (by rw [Bool.eq_false_iff]; intro hr; simp [rightM, headB] at hr; omega)
    rw [HR.out]
    go_enter Tryd.func12, Tryd.ntmps12
    go_wp2_with fail
    go_ret
    exact ⟨rfl, HE.out⟩
  by_cases g5 : 16 ≤ nd
  · have HR : Hid (rightM k p nd h s D = false) := Lib.hid (by rw [Bool.eq_false_iff]; intro hr; simp [rightM, headB] at hr; omega)
    rw [HR.out]
    go_enter Tryd.func12, Tryd.ntmps12
    go_wp2_with fail
    go_ret
    exact ⟨rfl, HE.out⟩
  by_cases g6 : h < 0
  · have HR : Hid (rightM k p nd h s D = false) := Lib.hid (by rw [Bool.eq_false_iff]; intro hr; simp [rightM, headB] at hr; omega)
    rw [HR.out]
    go_enter Tryd.func12, Tryd.ntmps12
    go_wp2_with fail
    go_ret
    exact ⟨rfl, HE.out⟩
  by_cases g7 : 255 < h
  · have HR : Hid (rightM k p nd h s D = false) := Lib.hid (by rw [Bool.eq_false_iff]; intro hr; simp [rightM, headB] at hr; omega)
    rw [HR.out]
    go_enter Tryd.func12, Tryd.ntmps12
    go_wp2_with fail
    go_ret
    exact ⟨rfl, HE.out⟩
  have HG : Hid (1 ≤ k ∧ k ≤ 6 ∧ 0 ≤ p ∧ p < 65536 ∧ 0 ≤ nd ∧ nd < 16 ∧ 0 ≤ h ∧ h ≤ 255) := Lib.hid ⟨by omega, by omega, by omega, by omega, by omega, by omega, by omega, by omega⟩
  by_cases gs : s ≠ 0 ∧ k ≠ 4
  · obtain ⟨gs0, gk4⟩ := gs
    have HR : Hid (rightM k p nd h s D = false) := Lib.hid (by rw [Bool.eq_false_iff]; intro hr; simp [rightM, headB] at hr; omega)
    rw [HR.out]
    have e1 : ((s : Int) == 0) = false := by simp; omega
    have e2 : (k == 4) = false := by simpa using gk4
    have e3 : ((s : Int) != 0) = true := by simp; omega
    have e4 : (k != 4) = true := by simpa using gk4
    clear gs0 gk4
    go_enter Tryd.func12, Tryd.ntmps12
    go_wp2_with fail
    go_ret
    exact ⟨rfl, HE.out⟩
  have HR : Hid (rightM k p nd h s D = dataB k D) := Lib.hid (by
    have hg := HG.out
    have hh : headB k p nd h s = true := by simp [headB]; omega
    unfold rightM
    rw [hh, Bool.true_and])
  rw [HR.out]
  have hsk : s = 0 ∨ (s ≠ 0 ∧ k = 4) := by omega
  rcases hsk with hs | ⟨hs, hk⟩
  · subst hs
    clear gs
    rcases (show (k ≠ 3 ∧ k ≠ 4) ∨ k = 3 ∨ k = 4 by omega) with ⟨hk3, hk4⟩ | hk | hk
    · have f3 : (k == 3) = false := by simpa using hk3
      have f4 : (k == 4) = false := by simpa using hk4
      have HD : Hid (dataB k D = (D.length == 0)) := Lib.hid (by unfold dataB carB; rw [f3, f4]; rfl)
      rw [HD.out]
      have n3 : (k != 3) = true := by simpa using hk3
      have n4 : (k != 4) = true := by simpa using hk4
      go_enter Tryd.func12, Tryd.ntmps12
      go_wp2_with fail
      go_ret
      refine ⟨?_, HE.out⟩
      rw [HM.out]
      cases m with
      | zero => rfl
      | succ m => simp; omega
    · subst hk
      have HD : Hid (dataB 3 D = (decide (D.length ≤ 4096) && (D.length == 0 || !(D.getD (D.length - 1) 0 == 0)))) := Lib.hid rfl
      rw [HD.out]
      rcases Nat.eq_zero_or_pos m with h0 | h0
      · subst h0
        go_enter Tryd.func12, Tryd.ntmps12
        go_wp2_with fail
        go_ret
        refine ⟨?_, HE.out⟩
        rw [HM.out]
        rfl
      · have i3 : ((m : Int) == 0) = false := by simp; omega
        by_cases h96 : m ≤ 4096
        · have hB := HBT.out
          have hm := HM.out
          obtain ⟨b, o, rfl, hcell⟩ := hB.2 (by omega)
          obtain ⟨q, hq⟩ : ∃ q, m = q + 1 := ⟨m - 1, by omega⟩
          have c0 := hcell q (by omega)
          have hlt := cell_lt c0
          have hd : D.getD (D.length - 1) 0 = D.getD q 0 := by rw [hm, hq]; rfl
          rw [hd, hm]
          generalize D.getD q 0 = z at *
          have i1 : (m : Int) ≤ 4096 := by omega
          have i4 : (q : Int) < (m : Int) := by omega
          have i5 : wrap64 ((m : Int) - 1) = (q : Int) := by unfold wrap64; omega
          have i6 : (m : Int) - 1 = (q : Int) := by omega
          have HR2 : Hid ((decide (m ≤ 4096) && (m == 0 || !(z == 0))) = ((z : Int) != 0)) := Lib.hid (by rw [decide_eq_true h96, show (m == 0) = false by simp; omega]; cases z <;> simp <;> omega)
          rw [HR2.out]
          clear hB hm hq hcell hd h0 h96
          go_enter Tryd.func12, Tryd.ntmps12
          go_wp2_with fail
          go_ret
          exact ⟨rfl, HE.out⟩
        · have i1 : ¬ (m : Int) ≤ 4096 := by omega
          have HR2 : Hid ((decide (D.length ≤ 4096) && (D.length == 0 || !(D.getD (D.length - 1) 0 == 0))) = false) := Lib.hid (by rw [HM.out, decide_eq_false h96]; rfl)
          rw [HR2.out]
          clear h0 h96
          go_enter Tryd.func12, Tryd.ntmps12
          go_wp2_with fail
          go_ret
          exact ⟨rfl, HE.out⟩
    · subst hk
      have HD : Hid (dataB 4 D = (decide (D.length ≤ 4096) && (D.length == 0 || !(D.getD (D.length - 1) 0 == 0)))) := Lib.hid rfl
      rw [HD.out]
      rcases Nat.eq_zero_or_pos m with h0 | h0
      · subst h0
        go_enter Tryd.func12, Tryd.ntmps12
        go_wp2_with fail
        go_ret
        refine ⟨?_, HE.out⟩
        rw [HM.out]
        rfl
      · have i3 : ((m : Int) == 0) = false := by simp; omega
        by_cases h96 : m ≤ 4096
        · have hB := HBT.out
          have hm := HM.out
          obtain ⟨b, o, rfl, hcell⟩ := hB.2 (by omega)
          obtain ⟨q, hq⟩ : ∃ q, m = q + 1 := ⟨m - 1, by omega⟩
          have c0 := hcell q (by omega)
          have hlt := cell_lt c0
          have hd : D.getD (D.length - 1) 0 = D.getD q 0 := by rw [hm, hq]; rfl
          rw [hd, hm]
          generalize D.getD q 0 = z at *
          have i1 : (m : Int) ≤ 4096 := by omega
          have i4 : (q : Int) < (m : Int) := by omega
          have i5 : wrap64 ((m : Int) - 1) = (q : Int) := by unfold wrap64; omega
          have i6 : (m : Int) - 1 = (q : Int) := by omega
          have HR2 : Hid ((decide (m ≤ 4096) && (m == 0 || !(z == 0))) = ((z : Int) != 0)) := Lib.hid (by rw [decide_eq_true h96, show (m == 0) = false by simp; omega]; cases z <;> simp <;> omega)
          rw [HR2.out]
          clear hB hm hq hcell hd h0 h96
          go_enter Tryd.func12, Tryd.ntmps12
          go_wp2_with fail
          go_ret
          exact ⟨rfl, HE.out⟩
        · have i1 : ¬ (m : Int) ≤ 4096 := by omega
          have HR2 : Hid ((decide (D.length ≤ 4096) && (D.length == 0 || !(D.getD (D.length - 1) 0 == 0))) = false) := Lib.hid (by rw [HM.out, decide_eq_false h96]; rfl)
          rw [HR2.out]
          clear h0 h96
          go_enter Tryd.func12, Tryd.ntmps12
          go_wp2_with fail
          go_ret
          exact ⟨rfl, HE.out⟩
  · subst hk
    have e1 : ((s : Int) == 0) = false := by simp; omega
    have e3 : ((s : Int) != 0) = true := by simp; omega
    clear hs gs
    have HD : Hid (dataB 4 D = (decide (D.length ≤ 4096) && (D.length == 0 || !(D.getD (D.length - 1) 0 == 0)))) := Lib.hid rfl
    rw [HD.out]
    rcases Nat.eq_zero_or_pos m with h0 | h0
    · subst h0
      go_enter Tryd.func12, Tryd.ntmps12
      go_wp2_with fail
      go_ret
      refine ⟨?_, HE.out⟩
      rw [HM.out]
      rfl
    · have i3 : ((m : Int) == 0) = false := by simp; omega
      by_cases h96 : m ≤ 4096
      · have hB := HBT.out
        have hm := HM.out
        obtain ⟨b, o, rfl, hcell⟩ := hB.2 (by omega)
        obtain ⟨q, hq⟩ : ∃ q, m = q + 1 := ⟨m - 1, by omega⟩
        have c0 := hcell q (by omega)
        have hlt := cell_lt c0
        have hd : D.getD (D.length - 1) 0 = D.getD q 0 := by rw [hm, hq]; rfl
        rw [hd, hm]
        generalize D.getD q 0 = z at *
        have i1 : (m : Int) ≤ 4096 := by omega
        have i4 : (q : Int) < (m : Int) := by omega
        have i5 : wrap64 ((m : Int) - 1) = (q : Int) := by unfold wrap64; omega
        have i6 : (m : Int) - 1 = (q : Int) := by omega
        have HR2 : Hid ((decide (m ≤ 4096) && (m == 0 || !(z == 0))) = ((z : Int) != 0)) := Lib.hid (by rw [decide_eq_true h96, show (m == 0) = false by simp; omega]; cases z <;> simp <;> omega)
        rw [HR2.out]
        clear hB hm hq hcell hd h0 h96
        go_enter Tryd.func12, Tryd.ntmps12
        go_wp2_with fail
        go_ret
        exact ⟨rfl, HE.out⟩
      · have i1 : ¬ (m : Int) ≤ 4096 := by omega
        have HR2 : Hid ((decide (D.length ≤ 4096) && (D.length == 0 || !(D.getD (D.length - 1) 0 == 0))) = false) := Lib.hid (by rw [HM.out, decide_eq_false h96]; rfl)
        rw [HR2.out]
        clear h0 h96
        go_enter Tryd.func12, Tryd.ntmps12
        go_wp2_with fail
        go_ret
        exact ⟨rfl, HE.out⟩
end Go.Proofs.YtkkgigdgbiklmaaDoor
