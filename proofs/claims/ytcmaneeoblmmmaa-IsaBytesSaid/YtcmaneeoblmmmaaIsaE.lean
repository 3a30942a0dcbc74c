/- Contracts of the reference's side: reg, Right. -/
import Derived.Test.YtcmaneeoblmmmaaIsaD
namespace Go.Proofs.Ytcmaneeoblmmmaa
open Go.RowKit

def regB (n : Int) (h : Bool) : Bool := n == 0 || (decide (0 < n) && decide (n < 16) && h)
theorem reg_any (n : Int) (k : Nat) (p : Int) (W : World) (hk : k < 10) (hp : p = 100 ∨ p = 115 ∨ p = 116 ∨ p = 105) :
    Calls Try.prog 19 #[.int .i64 n, .string (ks k), .int .u8 p] W fun e w' => e = .returned (.bool (regB n (usesB k p))) ∧ W = w' := by
  have HK := Lib.hid hk
  have HP := Lib.hid hp
  clear hk hp
  rcases (show n = 0 ∨ n < 0 ∨ 16 ≤ n ∨ (0 < n ∧ n < 16) by omega) with h | h | h | ⟨h, h2⟩
  · subst h
    go_enter Try.func19, Try.ntmps19
    go_wp2
    go_ret
    exact ⟨rfl, rfl⟩
  · have e0 : (n == 0) = false := by rw [beq_eq_false_iff_ne]; omega
    have e1 : decide (0 < n) = false := by simp; omega
    rw [show regB n (usesB k p) = false by simp [regB, e0, e1]]
    clear h
    go_enter Try.func19, Try.ntmps19
    go_wp2
    go_ret
    exact ⟨rfl, rfl⟩
  · have e0 : (n == 0) = false := by rw [beq_eq_false_iff_ne]; omega
    have e1 : decide (0 < n) = true := by simp; omega
    have e2 : decide (n < 16) = false := by simp; omega
    rw [show regB n (usesB k p) = false by simp [regB, e0, e1, e2]]
    clear h
    go_enter Try.func19, Try.ntmps19
    go_wp2
    go_ret
    exact ⟨rfl, rfl⟩
  · have e0 : (n == 0) = false := by rw [beq_eq_false_iff_ne]; omega
    have e1 : decide (0 < n) = true := by simp; omega
    have e2 : decide (n < 16) = true := by simp; omega
    rw [show regB n (usesB k p) = usesB k p by simp [regB, e0, e1, e2]]
    clear h h2
    go_enter Try.func19, Try.ntmps19
    go_wp2_with fail
    refine (uses_any _ _ _ HK.out HP.out).mono ?_
    rintro e w' ⟨rfl, rfl⟩
    go_wp2
    go_ret
    exact ⟨rfl, rfl⟩

/-- What the reference's Right answers. -/
def rrightB (o d s t i : Int) : Bool := decide (0 ≤ o ∧ o < 35) && regB d (uD (kd o)) && regB s (uS (kd o)) && regB t (uT (kd o)) && (i == 0 || (uI (kd o) && decide (-2048 ≤ i) && decide (i ≤ 2047)))
theorem reg_part (r : Int) (h : Bool) (n : Nat) (hn : n < 3) : partB r h n = regB r h := by
  unfold partB regB
  by_cases h0 : r = 0
  · subst h0; simp
  · have e0 : (r != 0) = true := by rw [bne_iff_ne]; exact h0
    have e1 : (r == 0) = false := by rw [beq_eq_false_iff_ne]; exact h0
    have e2 : decide (n < 3) = true := by simpa using hn
    rw [e0, e1, e2]
    cases h <;> simp
    rw [Bool.eq_iff_iff]
    simp
    omega
theorem rright_eq (o d s t i : Int) : rrightB o d s t i = rightB o d s t i := by
  unfold rrightB rightB rightK
  by_cases hr : 0 ≤ o ∧ o < 35
  · have hk := kd_lt hr.1 hr.2
    have e1 : (kd o != 10) = true := by rw [bne_iff_ne]; omega
    simp only [partsB, reg_part _ _ 0 (by decide), reg_part _ _ 1 (by decide), reg_part _ _ 2 (by decide), e1, decide_eq_true hr, Bool.true_and]
    have e2 : (i == 0 || (uI (kd o) && decide (-2048 ≤ i) && decide (i ≤ 2047))) = (decide (-2048 ≤ i) && decide (i ≤ 2047) && partB i (uI (kd o)) 3) := by
      unfold partB
      by_cases h0 : i = 0
      · subst h0; simp
      · have e0 : (i != 0) = true := by rw [bne_iff_ne]; exact h0
        have e1 : (i == 0) = false := by rw [beq_eq_false_iff_ne]; exact h0
        rw [e0, e1]
        cases uI (kd o) <;> simp
    rw [e2]
    generalize decide (-2048 ≤ i) = q1
    generalize decide (i ≤ 2047) = q2
    generalize partB i (uI (kd o)) 3 = q3
    generalize regB d _ = q4
    generalize regB s _ = q5
    generalize regB t _ = q6
    cases q1 <;> cases q2 <;> cases q3 <;> cases q4 <;> cases q5 <;> cases q6 <;> rfl
  · rw [kd_no hr]
    simp [hr]

set_option maxHeartbeats 8000000 in
theorem rright_any (o d s t i : Int) (W : World) :
    Calls Try.prog 9 #[.agg #[.int .i64 o, .int .i64 d, .int .i64 s, .int .i64 t, .int .i64 i]] W fun e w' => e = .returned (.bool (rightB o d s t i)) ∧ Below W.heap.size W w' := by
  rw [← rright_eq]
  by_cases hr : 0 ≤ o ∧ o < 35
  · obtain ⟨n, rfl⟩ := Int.eq_ofNat_of_zero_le hr.1
    have hn : n < 35 := by omega
    have hk := kd_lt hr.1 hr.2
    have HN := Lib.hid hn
    have HK := Lib.hid hk
    have key : ∀ q1 q2 q3 q4 : Bool, regB d (uD (kd n)) = q1 → regB s (uS (kd n)) = q2 → regB t (uT (kd n)) = q3 → uI (kd n) = q4 →
        Calls Try.prog 9 #[.agg #[.int .i64 (n : Int), .int .i64 d, .int .i64 s, .int .i64 t, .int .i64 i]] W fun e w' => e = .returned (.bool (q1 && q2 && q3 && (i == 0 || (q4 && decide (-2048 ≤ i) && decide (i ≤ 2047))))) ∧ Below W.heap.size W w' := by
      intro q1 q2 q3 q4 h1 h2 h3 h4
      have H1 := Lib.hid h1
      have H2 := Lib.hid h2
      have H3 := Lib.hid h3
      have H4 := Lib.hid h4
      clear h1 h2 h3 h4 hr hn hk
      cases q1
      · go_enter Try.func9, Try.ntmps9
        go_wp2_with fail
        refine (of_yes n _ HN.out).mono ?_
        rintro e w1 ⟨rfl, hb⟩
        have hp := Blkf.below (Blkf.new_at (n := W.heap.size) W 24 (0, 0) #[.int .i64 (n : Int), .int .i64 d, .int .i64 s, .int .i64 t, .int .i64 i] rfl) hb (by simp)
        have c0 : w1.cell? ⟨W.heap.size, 0, none⟩ = some (.int .i64 (n : Int)) := hp.cell 0
        have c1 : w1.cell? ⟨W.heap.size, 1, none⟩ = some (.int .i64 d) := hp.cell 1
        have c2 : w1.cell? ⟨W.heap.size, 2, none⟩ = some (.int .i64 s) := hp.cell 2
        have c3 : w1.cell? ⟨W.heap.size, 3, none⟩ = some (.int .i64 t) := hp.cell 3
        have c4 : w1.cell? ⟨W.heap.size, 4, none⟩ = some (.int .i64 i) := hp.cell 4
        have lp : W.heap.size < w1.heap.size := hp.lt
        have b1 := ((Below.refl _ W).alloc (Nat.le_refl _) (.cells #[.int .i64 (n : Int), .int .i64 d, .int .i64 s, .int .i64 t, .int .i64 i] 24)).trans (hb.mono (by simp))
        have HB := Lib.hid b1
        clear hb hp b1
        go_wp2_with fail
        refine (reg_any _ _ _ _ HK.out (by decide)).mono ?_
        rintro e w' ⟨rfl, rfl⟩
        rw [show usesB (kd n) 100 = uD (kd n) from rfl, H1.out]
        go_wp2
        go_ret
        exact ⟨rfl, HB.out.alloc HB.out.size _⟩
      cases q2
      · go_enter Try.func9, Try.ntmps9
        go_wp2_with fail
        refine (of_yes n _ HN.out).mono ?_
        rintro e w1 ⟨rfl, hb⟩
        have hp := Blkf.below (Blkf.new_at (n := W.heap.size) W 24 (0, 0) #[.int .i64 (n : Int), .int .i64 d, .int .i64 s, .int .i64 t, .int .i64 i] rfl) hb (by simp)
        have c0 : w1.cell? ⟨W.heap.size, 0, none⟩ = some (.int .i64 (n : Int)) := hp.cell 0
        have c1 : w1.cell? ⟨W.heap.size, 1, none⟩ = some (.int .i64 d) := hp.cell 1
        have c2 : w1.cell? ⟨W.heap.size, 2, none⟩ = some (.int .i64 s) := hp.cell 2
        have c3 : w1.cell? ⟨W.heap.size, 3, none⟩ = some (.int .i64 t) := hp.cell 3
        have c4 : w1.cell? ⟨W.heap.size, 4, none⟩ = some (.int .i64 i) := hp.cell 4
        have lp : W.heap.size < w1.heap.size := hp.lt
        have b1 := ((Below.refl _ W).alloc (Nat.le_refl _) (.cells #[.int .i64 (n : Int), .int .i64 d, .int .i64 s, .int .i64 t, .int .i64 i] 24)).trans (hb.mono (by simp))
        have HB := Lib.hid b1
        clear hb hp b1
        go_wp2_with fail
        refine (reg_any _ _ _ _ HK.out (by decide)).mono ?_
        rintro e w' ⟨rfl, rfl⟩
        rw [show usesB (kd n) 100 = uD (kd n) from rfl, H1.out]
        go_wp2_with fail
        refine (reg_any _ _ _ _ HK.out (by decide)).mono ?_
        rintro e w' ⟨rfl, rfl⟩
        rw [show usesB (kd n) 115 = uS (kd n) from rfl, H2.out]
        go_wp2
        go_ret
        exact ⟨rfl, HB.out.alloc HB.out.size _⟩
      cases q3
      · go_enter Try.func9, Try.ntmps9
        go_wp2_with fail
        refine (of_yes n _ HN.out).mono ?_
        rintro e w1 ⟨rfl, hb⟩
        have hp := Blkf.below (Blkf.new_at (n := W.heap.size) W 24 (0, 0) #[.int .i64 (n : Int), .int .i64 d, .int .i64 s, .int .i64 t, .int .i64 i] rfl) hb (by simp)
        have c0 : w1.cell? ⟨W.heap.size, 0, none⟩ = some (.int .i64 (n : Int)) := hp.cell 0
        have c1 : w1.cell? ⟨W.heap.size, 1, none⟩ = some (.int .i64 d) := hp.cell 1
        have c2 : w1.cell? ⟨W.heap.size, 2, none⟩ = some (.int .i64 s) := hp.cell 2
        have c3 : w1.cell? ⟨W.heap.size, 3, none⟩ = some (.int .i64 t) := hp.cell 3
        have c4 : w1.cell? ⟨W.heap.size, 4, none⟩ = some (.int .i64 i) := hp.cell 4
        have lp : W.heap.size < w1.heap.size := hp.lt
        have b1 := ((Below.refl _ W).alloc (Nat.le_refl _) (.cells #[.int .i64 (n : Int), .int .i64 d, .int .i64 s, .int .i64 t, .int .i64 i] 24)).trans (hb.mono (by simp))
        have HB := Lib.hid b1
        clear hb hp b1
        go_wp2_with fail
        refine (reg_any _ _ _ _ HK.out (by decide)).mono ?_
        rintro e w' ⟨rfl, rfl⟩
        rw [show usesB (kd n) 100 = uD (kd n) from rfl, H1.out]
        go_wp2_with fail
        refine (reg_any _ _ _ _ HK.out (by decide)).mono ?_
        rintro e w' ⟨rfl, rfl⟩
        rw [show usesB (kd n) 115 = uS (kd n) from rfl, H2.out]
        go_wp2_with fail
        refine (reg_any _ _ _ _ HK.out (by decide)).mono ?_
        rintro e w' ⟨rfl, rfl⟩
        rw [show usesB (kd n) 116 = uT (kd n) from rfl, H3.out]
        go_wp2
        go_ret
        exact ⟨rfl, HB.out.alloc HB.out.size _⟩
      by_cases h0 : i = 0
      · subst h0
        go_enter Try.func9, Try.ntmps9
        go_wp2_with fail
        refine (of_yes n _ HN.out).mono ?_
        rintro e w1 ⟨rfl, hb⟩
        have hp := Blkf.below (Blkf.new_at (n := W.heap.size) W 24 (0, 0) #[.int .i64 (n : Int), .int .i64 d, .int .i64 s, .int .i64 t, .int .i64 0] rfl) hb (by simp)
        have c0 : w1.cell? ⟨W.heap.size, 0, none⟩ = some (.int .i64 (n : Int)) := hp.cell 0
        have c1 : w1.cell? ⟨W.heap.size, 1, none⟩ = some (.int .i64 d) := hp.cell 1
        have c2 : w1.cell? ⟨W.heap.size, 2, none⟩ = some (.int .i64 s) := hp.cell 2
        have c3 : w1.cell? ⟨W.heap.size, 3, none⟩ = some (.int .i64 t) := hp.cell 3
        have c4 : w1.cell? ⟨W.heap.size, 4, none⟩ = some (.int .i64 0) := hp.cell 4
        have lp : W.heap.size < w1.heap.size := hp.lt
        have b1 := ((Below.refl _ W).alloc (Nat.le_refl _) (.cells #[.int .i64 (n : Int), .int .i64 d, .int .i64 s, .int .i64 t, .int .i64 0] 24)).trans (hb.mono (by simp))
        have HB := Lib.hid b1
        clear hb hp b1
        go_wp2_with fail
        refine (reg_any _ _ _ _ HK.out (by decide)).mono ?_
        rintro e w' ⟨rfl, rfl⟩
        rw [show usesB (kd n) 100 = uD (kd n) from rfl, H1.out]
        go_wp2_with fail
        refine (reg_any _ _ _ _ HK.out (by decide)).mono ?_
        rintro e w' ⟨rfl, rfl⟩
        rw [show usesB (kd n) 115 = uS (kd n) from rfl, H2.out]
        go_wp2_with fail
        refine (reg_any _ _ _ _ HK.out (by decide)).mono ?_
        rintro e w' ⟨rfl, rfl⟩
        rw [show usesB (kd n) 116 = uT (kd n) from rfl, H3.out]
        go_wp2
        go_ret
        exact ⟨rfl, HB.out.alloc HB.out.size _⟩
      have e0 : (i == 0) = false := by rw [beq_eq_false_iff_ne]; exact h0
      clear h0
      cases q4
      · go_enter Try.func9, Try.ntmps9
        go_wp2_with fail
        refine (of_yes n _ HN.out).mono ?_
        rintro e w1 ⟨rfl, hb⟩
        have hp := Blkf.below (Blkf.new_at (n := W.heap.size) W 24 (0, 0) #[.int .i64 (n : Int), .int .i64 d, .int .i64 s, .int .i64 t, .int .i64 i] rfl) hb (by simp)
        have c0 : w1.cell? ⟨W.heap.size, 0, none⟩ = some (.int .i64 (n : Int)) := hp.cell 0
        have c1 : w1.cell? ⟨W.heap.size, 1, none⟩ = some (.int .i64 d) := hp.cell 1
        have c2 : w1.cell? ⟨W.heap.size, 2, none⟩ = some (.int .i64 s) := hp.cell 2
        have c3 : w1.cell? ⟨W.heap.size, 3, none⟩ = some (.int .i64 t) := hp.cell 3
        have c4 : w1.cell? ⟨W.heap.size, 4, none⟩ = some (.int .i64 i) := hp.cell 4
        have lp : W.heap.size < w1.heap.size := hp.lt
        have b1 := ((Below.refl _ W).alloc (Nat.le_refl _) (.cells #[.int .i64 (n : Int), .int .i64 d, .int .i64 s, .int .i64 t, .int .i64 i] 24)).trans (hb.mono (by simp))
        have HB := Lib.hid b1
        clear hb hp b1
        go_wp2_with fail
        refine (reg_any _ _ _ _ HK.out (by decide)).mono ?_
        rintro e w' ⟨rfl, rfl⟩
        rw [show usesB (kd n) 100 = uD (kd n) from rfl, H1.out]
        go_wp2_with fail
        refine (reg_any _ _ _ _ HK.out (by decide)).mono ?_
        rintro e w' ⟨rfl, rfl⟩
        rw [show usesB (kd n) 115 = uS (kd n) from rfl, H2.out]
        go_wp2_with fail
        refine (reg_any _ _ _ _ HK.out (by decide)).mono ?_
        rintro e w' ⟨rfl, rfl⟩
        rw [show usesB (kd n) 116 = uT (kd n) from rfl, H3.out]
        go_wp2_with fail
        refine (uses_any _ 105 _ HK.out (by decide)).mono ?_
        rintro e w' ⟨rfl, rfl⟩
        rw [show usesB (kd n) 105 = uI (kd n) from rfl, H4.out]
        go_wp2
        go_ret
        exact ⟨by simp [*], HB.out.alloc HB.out.size _⟩
      by_cases hl : -2048 ≤ i
      · have e1 : decide (-2048 ≤ i) = true := by simpa using hl
        clear hl
        by_cases hg : i ≤ 2047
        · have e2 : decide (i ≤ 2047) = true := by simpa using hg
          clear hg
          go_enter Try.func9, Try.ntmps9
          go_wp2_with fail
          refine (of_yes n _ HN.out).mono ?_
          rintro e w1 ⟨rfl, hb⟩
          have hp := Blkf.below (Blkf.new_at (n := W.heap.size) W 24 (0, 0) #[.int .i64 (n : Int), .int .i64 d, .int .i64 s, .int .i64 t, .int .i64 i] rfl) hb (by simp)
          have c0 : w1.cell? ⟨W.heap.size, 0, none⟩ = some (.int .i64 (n : Int)) := hp.cell 0
          have c1 : w1.cell? ⟨W.heap.size, 1, none⟩ = some (.int .i64 d) := hp.cell 1
          have c2 : w1.cell? ⟨W.heap.size, 2, none⟩ = some (.int .i64 s) := hp.cell 2
          have c3 : w1.cell? ⟨W.heap.size, 3, none⟩ = some (.int .i64 t) := hp.cell 3
          have c4 : w1.cell? ⟨W.heap.size, 4, none⟩ = some (.int .i64 i) := hp.cell 4
          have lp : W.heap.size < w1.heap.size := hp.lt
          have b1 := ((Below.refl _ W).alloc (Nat.le_refl _) (.cells #[.int .i64 (n : Int), .int .i64 d, .int .i64 s, .int .i64 t, .int .i64 i] 24)).trans (hb.mono (by simp))
          have HB := Lib.hid b1
          clear hb hp b1
          go_wp2_with fail
          refine (reg_any _ _ _ _ HK.out (by decide)).mono ?_
          rintro e w' ⟨rfl, rfl⟩
          rw [show usesB (kd n) 100 = uD (kd n) from rfl, H1.out]
          go_wp2_with fail
          refine (reg_any _ _ _ _ HK.out (by decide)).mono ?_
          rintro e w' ⟨rfl, rfl⟩
          rw [show usesB (kd n) 115 = uS (kd n) from rfl, H2.out]
          go_wp2_with fail
          refine (reg_any _ _ _ _ HK.out (by decide)).mono ?_
          rintro e w' ⟨rfl, rfl⟩
          rw [show usesB (kd n) 116 = uT (kd n) from rfl, H3.out]
          go_wp2_with fail
          refine (uses_any _ 105 _ HK.out (by decide)).mono ?_
          rintro e w' ⟨rfl, rfl⟩
          rw [show usesB (kd n) 105 = uI (kd n) from rfl, H4.out]
          go_wp2
          go_ret
          exact ⟨by simp [*], HB.out.alloc HB.out.size _⟩
        · have e2 : decide (i ≤ 2047) = false := by simpa using hg
          clear hg
          go_enter Try.func9, Try.ntmps9
          go_wp2_with fail
          refine (of_yes n _ HN.out).mono ?_
          rintro e w1 ⟨rfl, hb⟩
          have hp := Blkf.below (Blkf.new_at (n := W.heap.size) W 24 (0, 0) #[.int .i64 (n : Int), .int .i64 d, .int .i64 s, .int .i64 t, .int .i64 i] rfl) hb (by simp)
          have c0 : w1.cell? ⟨W.heap.size, 0, none⟩ = some (.int .i64 (n : Int)) := hp.cell 0
          have c1 : w1.cell? ⟨W.heap.size, 1, none⟩ = some (.int .i64 d) := hp.cell 1
          have c2 : w1.cell? ⟨W.heap.size, 2, none⟩ = some (.int .i64 s) := hp.cell 2
          have c3 : w1.cell? ⟨W.heap.size, 3, none⟩ = some (.int .i64 t) := hp.cell 3
          have c4 : w1.cell? ⟨W.heap.size, 4, none⟩ = some (.int .i64 i) := hp.cell 4
          have lp : W.heap.size < w1.heap.size := hp.lt
          have b1 := ((Below.refl _ W).alloc (Nat.le_refl _) (.cells #[.int .i64 (n : Int), .int .i64 d, .int .i64 s, .int .i64 t, .int .i64 i] 24)).trans (hb.mono (by simp))
          have HB := Lib.hid b1
          clear hb hp b1
          go_wp2_with fail
          refine (reg_any _ _ _ _ HK.out (by decide)).mono ?_
          rintro e w' ⟨rfl, rfl⟩
          rw [show usesB (kd n) 100 = uD (kd n) from rfl, H1.out]
          go_wp2_with fail
          refine (reg_any _ _ _ _ HK.out (by decide)).mono ?_
          rintro e w' ⟨rfl, rfl⟩
          rw [show usesB (kd n) 115 = uS (kd n) from rfl, H2.out]
          go_wp2_with fail
          refine (reg_any _ _ _ _ HK.out (by decide)).mono ?_
          rintro e w' ⟨rfl, rfl⟩
          rw [show usesB (kd n) 116 = uT (kd n) from rfl, H3.out]
          go_wp2_with fail
          refine (uses_any _ 105 _ HK.out (by decide)).mono ?_
          rintro e w' ⟨rfl, rfl⟩
          rw [show usesB (kd n) 105 = uI (kd n) from rfl, H4.out]
          go_wp2
          go_ret
          exact ⟨by simp [*], HB.out.alloc HB.out.size _⟩
      · have e1 : decide (-2048 ≤ i) = false := by simpa using hl
        clear hl
        go_enter Try.func9, Try.ntmps9
        go_wp2_with fail
        refine (of_yes n _ HN.out).mono ?_
        rintro e w1 ⟨rfl, hb⟩
        have hp := Blkf.below (Blkf.new_at (n := W.heap.size) W 24 (0, 0) #[.int .i64 (n : Int), .int .i64 d, .int .i64 s, .int .i64 t, .int .i64 i] rfl) hb (by simp)
        have c0 : w1.cell? ⟨W.heap.size, 0, none⟩ = some (.int .i64 (n : Int)) := hp.cell 0
        have c1 : w1.cell? ⟨W.heap.size, 1, none⟩ = some (.int .i64 d) := hp.cell 1
        have c2 : w1.cell? ⟨W.heap.size, 2, none⟩ = some (.int .i64 s) := hp.cell 2
        have c3 : w1.cell? ⟨W.heap.size, 3, none⟩ = some (.int .i64 t) := hp.cell 3
        have c4 : w1.cell? ⟨W.heap.size, 4, none⟩ = some (.int .i64 i) := hp.cell 4
        have lp : W.heap.size < w1.heap.size := hp.lt
        have b1 := ((Below.refl _ W).alloc (Nat.le_refl _) (.cells #[.int .i64 (n : Int), .int .i64 d, .int .i64 s, .int .i64 t, .int .i64 i] 24)).trans (hb.mono (by simp))
        have HB := Lib.hid b1
        clear hb hp b1
        go_wp2_with fail
        refine (reg_any _ _ _ _ HK.out (by decide)).mono ?_
        rintro e w' ⟨rfl, rfl⟩
        rw [show usesB (kd n) 100 = uD (kd n) from rfl, H1.out]
        go_wp2_with fail
        refine (reg_any _ _ _ _ HK.out (by decide)).mono ?_
        rintro e w' ⟨rfl, rfl⟩
        rw [show usesB (kd n) 115 = uS (kd n) from rfl, H2.out]
        go_wp2_with fail
        refine (reg_any _ _ _ _ HK.out (by decide)).mono ?_
        rintro e w' ⟨rfl, rfl⟩
        rw [show usesB (kd n) 116 = uT (kd n) from rfl, H3.out]
        go_wp2_with fail
        refine (uses_any _ 105 _ HK.out (by decide)).mono ?_
        rintro e w' ⟨rfl, rfl⟩
        rw [show usesB (kd n) 105 = uI (kd n) from rfl, H4.out]
        go_wp2
        go_ret
        exact ⟨by simp [*], HB.out.alloc HB.out.size _⟩
    have h := key _ _ _ _ rfl rfl rfl rfl
    unfold rrightB
    rw [decide_eq_true hr, Bool.true_and]
    exact h
  · rw [show rrightB o d s t i = false by unfold rrightB; rw [decide_eq_false hr]; rfl]
    have HR := Lib.hid hr
    clear hr
    go_enter Try.func9, Try.ntmps9
    go_wp2_with fail
    refine (of_no _ _ HR.out).mono ?_
    rintro e w1 ⟨rfl, hb⟩
    have b1 := ((Below.refl _ W).alloc (Nat.le_refl _) (.cells #[.int .i64 o, .int .i64 d, .int .i64 s, .int .i64 t, .int .i64 i] 24)).trans (hb.mono (by simp))
    have HB := Lib.hid b1
    clear hb b1
    go_wp2
    go_ret
    exact ⟨rfl, HB.out.alloc HB.out.size _⟩
end Go.Proofs.Ytcmaneeoblmmmaa
