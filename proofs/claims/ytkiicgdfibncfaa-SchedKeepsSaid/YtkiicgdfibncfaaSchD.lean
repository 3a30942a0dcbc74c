/- The reference's Robin; numbers that may not be. -/
import Derived.Test.YtkiicgdfibncfaaSchC
namespace Go.Proofs.Ytkiicgdfibncfaa
open Go.RowKit

theorem quoT (r : Nat) : (100000 : Int) / (r : Int) = ((100000 / r : Nat) : Int) := rfl
set_option maxHeartbeats 8000000 in
theorem rrobin_yes (n r d : Nat) (a c : Int) (W : World) (ha : n = a.toNat) (hr : 0 < r) (hc : d = c.toNat) (h1 : n ≤ 100000) (h2 : r ≤ 100000) (h3 : d ≤ 100000) (h4 : r * (n + d + 1) ≤ 100000) :
    Calls Try.prog 16 #[.int .i64 a, .int .i64 (r : Int), .int .i64 c] W fun e w' => ∃ v, e = .returned v ∧ OwnA W.heap.size w' v (roundsL n r d) ∧ Below W.heap.size W w' := by
  obtain ⟨i0, hi0, hz0, hz1, hz2⟩ := info_parts info_act
  have m1 := clamp ha
  have m3 := clamp hc
  have e1 : decide (100000 < a) = false := by simp; omega
  have e2 : decide (100000 < (r : Int)) = false := by simp; omega
  have e3 : decide (100000 < c) = false := by simp; omega
  have e7 : n + d + 1 ≤ 100000 / r := (Nat.le_div_iff_mul_le hr).2 (by rw [Nat.mul_comm]; exact h4)
  have e5 : decide ((100000 : Int) / (r : Int) < (n : Int) + d + 1) = false := by rw [quoT]; simp only [decide_eq_false_iff_not]; omega
  have HA := Lib.hid ha
  have HC := Lib.hid hc
  have hrz : (r : Int) ≠ 0 := by omega
  have hr0 : (0 : Int) < r := by omega
  clear ha hc e7
  go_enter Try.func16, Try.ntmps16
  go_wp2_with fail
  go_loopw [7, 8] (fun v i wr => ∃ k : Nat, k ≤ r ∧ i = .int .i64 k ∧ RobRel W (roundsL n k d) v wr) (fun _ i _ => r - (intOf i).toNat)
  case atStart => exact ⟨0, by omega, rfl, World.ownsRow_nil _ _ _ _, Below.refl _ _⟩
  case round =>
    obtain ⟨k, hk, rfl, hR⟩ := hrel
    obtain ⟨A0, c0, rfl, _⟩ := hR.1.rd
    have HR0 := Lib.hid hR
    clear hR
    by_cases hkl : k < r
    · have hq := le_rounds (m := n + d + 1) hkl h4
      have HQ := Lib.hid (roundsL_len n k d)
      go_wp2_with fail
      go_loopw [7, 9] (fun v i wr => ∃ j : Nat, j ≤ n ∧ i = .int .i64 j ∧ RobRel W (roundsL n k d ++ (List.range j).map (fun i : Nat => ((0, (i : Int), 0) : A3))) v wr) (fun _ i _ => n - (intOf i).toNat)
      case atStart => exact ⟨0, by omega, rfl, by simpa using HR0.out⟩
      case round =>
        obtain ⟨j, hj, rfl, hR⟩ := hrel
        obtain ⟨A1, c1, rfl, _⟩ := hR.1.rd
        by_cases hjl : j < n
        · have hja : (j : Int) < a := by have := HA.out; omega
          have hL : (roundsL n k d ++ (List.range j).map (fun i : Nat => ((0, (i : Int), 0) : A3))).length < 100000 := by simp [HQ.out]; omega
          generalize hLL : roundsL n k d ++ (List.range j).map (fun i : Nat => ((0, (i : Int), 0) : A3)) = L at hR hL
          have HLL := Lib.hid hLL
          have hWs := hR.2.size
          have HR := Lib.hid hR
          clear hR hLL
          go_wp2_with (at_builtin; refine wpList_append_any _ rfl (.tmp 46) (.tmp 49) _ rfl W.heap.size 48 i0 _ 3 24 Try.underlying34 hi0 hz0 hz1 hz2 rfl (by decide) _ L.length (actsC L) rfl (HR.out.1.alloc _) (wr.heap.size + 1) (some ⟨wr.heap.size, 0, none⟩) 1 1 (actC (0, (j : Int), 0)) rfl (reads_act wr _ (0, (j : Int), 0)) (one_act _) (by unfold maxLen; omega) (by omega) (by simp; omega) ?_; intro v2 w2 hown hgrow hat; have HR2 := Lib.hid (app_step HR.out hown hgrow); clear hown hgrow hat)
          go_roundw
          case rel => exact ⟨j + 1, hjl, by go_num, by rw [range_map_succ, ← List.append_assoc, HLL.out]; exact HR2.out⟩
          case measure => simp [intOf]; omega
        · obtain rfl : j = n := by omega
          have hja : ¬ (j : Int) < a := by have := HA.out; omega
          have HR1 := Lib.hid hR
          clear hR
          go_wp2_with fail
          go_loopw [7, 10] (fun v i wr => ∃ q : Nat, q ≤ d ∧ i = .int .i64 q ∧ RobRel W (roundsL j k d ++ ((List.range j).map (fun i : Nat => ((0, (i : Int), 0) : A3)) ++ List.replicate q (1, 0, 0))) v wr) (fun _ i _ => d - (intOf i).toNat)
          case atStart => exact ⟨0, by omega, rfl, by simpa using HR1.out⟩
          case round =>
            obtain ⟨q, hqd, rfl, hR⟩ := hrel
            obtain ⟨A2, c2, rfl, _⟩ := hR.1.rd
            have hL : (roundsL j k d ++ ((List.range j).map (fun i : Nat => ((0, (i : Int), 0) : A3)) ++ List.replicate q (1, 0, 0))).length < 100000 := by simp [HQ.out]; omega
            generalize hLL : roundsL j k d ++ ((List.range j).map (fun i : Nat => ((0, (i : Int), 0) : A3)) ++ List.replicate q (1, 0, 0)) = L at hR hL
            have HLL := Lib.hid hLL
            have hWs := hR.2.size
            have HR := Lib.hid hR
            clear hR hLL
            by_cases hql : q < d
            · have hqc : (q : Int) < c := by have := HC.out; omega
              go_wp2_with (at_builtin; refine wpList_append_any _ rfl (.tmp 56) (.tmp 58) _ rfl W.heap.size 48 i0 _ 3 24 Try.underlying34 hi0 hz0 hz1 hz2 rfl (by decide) _ L.length (actsC L) rfl (HR.out.1.alloc _) (wr.heap.size + 1) (some ⟨wr.heap.size, 0, none⟩) 1 1 (actC (1, 0, 0)) rfl (reads_act wr _ (1, 0, 0)) (one_act _) (by unfold maxLen; omega) (by omega) (by simp; omega) ?_; intro v2 w2 hown hgrow hat; have HR2 := Lib.hid (app_step HR.out hown hgrow); clear hown hgrow hat)
              go_roundw
              case rel => exact ⟨q + 1, hql, by go_num, by rw [List.replicate_succ', ← List.append_assoc, ← List.append_assoc, List.append_assoc (roundsL j k d), HLL.out]; exact HR2.out⟩
              case measure => simp [intOf]; omega
            · obtain rfl : q = d := by omega
              have hqc : ¬ (q : Int) < c := by have := HC.out; omega
              go_wp2_with (at_builtin; refine wpList_append_any _ rfl (.tmp 60) (.tmp 62) _ rfl W.heap.size 48 i0 _ 3 24 Try.underlying34 hi0 hz0 hz1 hz2 rfl (by decide) _ L.length (actsC L) rfl (HR.out.1.alloc _) (wr.heap.size + 1) (some ⟨wr.heap.size, 0, none⟩) 1 1 (actC (6, 0, 0)) rfl (reads_act wr _ (6, 0, 0)) (one_act _) (by unfold maxLen; omega) (by omega) (by simp; omega) ?_; intro v2 w2 hown hgrow hat; have HR2 := Lib.hid (app_step HR.out hown hgrow); clear hown hgrow hat)
              go_roundw
              case rel => exact ⟨k + 1, hkl, by go_num, by rw [roundsL_succ, roundL, ← List.append_assoc, HLL.out]; exact HR2.out⟩
              case measure => simp [intOf]; omega
    · obtain rfl : k = r := by omega
      go_wp2
      go_ret
      exact ⟨_, rfl, HR0.out⟩
def badR (a b c : Int) : Bool := decide (100000 < a) || decide (100000 < b) || decide (100000 < c) || decide (100000 < b.toNat * (a.toNat + c.toNat + 1))
theorem wrapT (n r d : Nat) (h1 : n ≤ 100000) (h2 : r ≤ 100000) (h3 : d ≤ 100000) : wrap64 (((n : Int) + d + 1) * r) = ((r * (n + d + 1) : Nat) : Int) := by
  have e6 : ((n : Int) + d + 1) * r = ((r * (n + d + 1) : Nat) : Int) := by rw [Int.mul_comm]; simp
  have : r * (n + d + 1) ≤ 100000 * 200001 := Nat.mul_le_mul h2 (by omega)
  rw [e6]
  simp only [wrap64]
  omega
theorem robin_no (a b c : Int) (W : World) (h : badR a b c = true) :
    Calls Try.prog 15 #[.int .i64 a, .int .i64 b, .int .i64 c] W fun e w' => e = .returned (.slice none 0 0) ∧ W = w' := by
  obtain ⟨n, hn⟩ : ∃ n, n = a.toNat := ⟨_, rfl⟩
  obtain ⟨r, hr⟩ : ∃ n, n = b.toNat := ⟨_, rfl⟩
  obtain ⟨d, hd⟩ : ∃ n, n = c.toNat := ⟨_, rfl⟩
  have m1 := clamp hn
  have m2 := clamp hr
  have m3 := clamp hd
  by_cases h1 : 100000 < (n : Int)
  · have e1 : decide (100000 < (n : Int)) = true := by simpa using h1
    clear h hn hr hd h1
    go_enter Try.func15, Try.ntmps15
    go_wp2
    go_ret
    exact ⟨rfl, rfl⟩
  have e1 : decide (100000 < (n : Int)) = false := by simpa using h1
  by_cases h2 : 100000 < (d : Int)
  · have e2 : decide (100000 < (d : Int)) = true := by simpa using h2
    clear h hn hr hd h1 h2
    go_enter Try.func15, Try.ntmps15
    go_wp2
    go_ret
    exact ⟨rfl, rfl⟩
  have e2 : decide (100000 < (d : Int)) = false := by simpa using h2
  by_cases h3 : 100000 < (r : Int)
  · have e3 : decide (100000 < (r : Int)) = true := by simpa using h3
    clear h hn hr hd h1 h2 h3
    go_enter Try.func15, Try.ntmps15
    go_wp2
    go_ret
    exact ⟨rfl, rfl⟩
  have e3 : decide (100000 < (r : Int)) = false := by simpa using h3
  have e4 : decide (100000 < (wrap64 (((n : Int) + d + 1) * r))) = true := by
    rw [wrapT n r d (by omega) (by omega) (by omega)]
    unfold badR at h
    rw [← hn, ← hr, ← hd] at h
    have f1 : decide (100000 < a) = false := by simp; omega
    have f2 : decide (100000 < b) = false := by simp; omega
    have f3 : decide (100000 < c) = false := by simp; omega
    rw [f1, f2, f3] at h
    simp only [Bool.false_or, decide_eq_true_eq] at h
    exact decide_eq_true (Int.ofNat_lt.2 h)
  have hnn : n ≤ 100000 := by omega
  have hdd : d ≤ 100000 := by omega
  have hrr : r ≤ 100000 := by omega
  clear h hn hr hd h1 h2 h3
  go_enter Try.func15, Try.ntmps15
  go_wp2
  go_ret
  exact ⟨rfl, rfl⟩
theorem rrobin_no (a b c : Int) (W : World) (h : badR a b c = true) :
    Calls Try.prog 16 #[.int .i64 a, .int .i64 b, .int .i64 c] W fun e w' => e = .returned (.slice none 0 0) ∧ W = w' := by
  obtain ⟨n, hn⟩ : ∃ n, n = a.toNat := ⟨_, rfl⟩
  obtain ⟨d, hd⟩ : ∃ n, n = c.toNat := ⟨_, rfl⟩
  have m1 := clamp hn
  have m3 := clamp hd
  by_cases h1 : 100000 < a
  · have e1 : decide (100000 < a) = true := by simpa using h1
    clear h hn hd h1
    go_enter Try.func16, Try.ntmps16
    go_wp2
    go_ret
    exact ⟨rfl, rfl⟩
  have e1 : decide (100000 < a) = false := by simpa using h1
  by_cases h2 : 100000 < b
  · have e2 : decide (100000 < b) = true := by simpa using h2
    clear h hn hd h1 h2
    go_enter Try.func16, Try.ntmps16
    go_wp2
    go_ret
    exact ⟨rfl, rfl⟩
  have e2 : decide (100000 < b) = false := by simpa using h2
  by_cases h3 : 100000 < c
  · have e3 : decide (100000 < c) = true := by simpa using h3
    clear h hn hd h1 h2 h3
    go_enter Try.func16, Try.ntmps16
    go_wp2
    go_ret
    exact ⟨rfl, rfl⟩
  have e3 : decide (100000 < c) = false := by simpa using h3
  unfold badR at h
  rw [e1, e2, e3, ← hn, ← hd] at h
  simp only [Bool.false_or, decide_eq_true_eq] at h
  have hb0 : 0 < b := by
    rcases Int.lt_or_le 0 b with h0 | h0
    · exact h0
    · rw [show b.toNat = 0 by omega] at h; simp at h
  obtain ⟨r, rfl⟩ : ∃ r : Nat, b = r := ⟨b.toNat, by omega⟩
  have hr : 0 < r := by omega
  have e7 : ¬ (n + d + 1 ≤ 100000 / r) := fun hc => by
    have := (Nat.le_div_iff_mul_le hr).1 hc
    rw [Nat.mul_comm] at this
    simp only [Int.toNat_natCast] at h
    omega
  have e5 : decide ((100000 : Int) / (r : Int) < (n : Int) + d + 1) = true := by rw [quoT]; simp only [decide_eq_true_eq]; omega
  have hrz : (r : Int) ≠ 0 := by omega
  have hr0 : (0 : Int) < r := by omega
  have hnn : n ≤ 100000 := by omega
  have hdd : d ≤ 100000 := by omega
  clear h hn hd h1 h2 h3 e7
  go_enter Try.func16, Try.ntmps16
  go_wp2
  go_ret
  exact ⟨rfl, rfl⟩
theorem rrobin_zero (a b c : Int) (W : World) (hb : b ≤ 0) (h1 : a ≤ 100000) (h3 : c ≤ 100000) :
    Calls Try.prog 16 #[.int .i64 a, .int .i64 b, .int .i64 c] W fun e w' => e = .returned (.slice none 0 0) ∧ W = w' := by
  have e1 : decide (100000 < a) = false := by simp; omega
  have e2 : decide (100000 < b) = false := by simp; omega
  have e3 : decide (100000 < c) = false := by simp; omega
  have e4 : decide (0 < b) = false := by simp; omega
  have e5 : ¬ (0 < b) := by omega
  clear h1 h3
  go_enter Try.func16, Try.ntmps16
  go_wp2_with fail
  go_loop [7, 8] (fun v i => v = .slice none 0 0 ∧ i = .int .i64 0) (fun _ _ => 0)
  case atStart => exact ⟨rfl, rfl⟩
  case round =>
    obtain ⟨rfl, rfl⟩ := hrel
    go_wp2
    go_ret
    exact ⟨rfl, rfl⟩
end Go.Proofs.Ytkiicgdfibncfaa
