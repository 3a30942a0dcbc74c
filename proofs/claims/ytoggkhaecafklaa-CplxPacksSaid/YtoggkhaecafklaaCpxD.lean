/- The reference's bitlen, fit where nothing is cut. -/
import Derived.Test.YtoggkhaecafklaaCpxC
namespace Go.Proofs.Ytoggkhaecafklaa
open Go.RowKit

def bl (m : Nat) : Nat := if m = 0 then 0 else m.log2 + 1
theorem bl_pos (m k : Nat) : k < bl m ↔ 0 < m / 2 ^ k := by
  unfold bl
  split
  · rename_i h; subst h; simp
  · rename_i h
    rw [Nat.lt_succ_iff, Nat.le_log2 h]
    constructor
    · intro h1; exact Nat.div_pos h1 (Nat.two_pow_pos k)
    · intro h1
      rcases Nat.lt_or_ge m (2 ^ k) with h2 | h2
      · rw [Nat.div_eq_of_lt h2] at h1; omega
      · exact h2
theorem bl_le {m k : Nat} (h : m < 2 ^ k) : bl m ≤ k := by
  rcases Nat.lt_or_ge k (bl m) with h1 | h1
  · have := (bl_pos m k).1 h1
    rw [Nat.div_eq_of_lt h] at this
    omega
  · exact h1
theorem bl_lt (m : Nat) : m < 2 ^ bl m := by
  have h : ¬ 0 < m / 2 ^ bl m := fun h => by have := (bl_pos m (bl m)).2 h; omega
  rcases Nat.lt_or_ge m (2 ^ bl m) with h1 | h1
  · exact h1
  · exact absurd (Nat.div_pos h1 (Nat.two_pow_pos _)) h
theorem bitlen_any (m : Nat) (W : World) (hm : m < 18446744073709551616) :
    Calls Try.prog 41 #[.int .u64 m] W fun e w' => e = .returned (.int .i64 (bl m : Int)) ∧ W = w' := by
  have HP := Lib.hid (bl_pos m)
  have hb : bl m ≤ 64 := bl_le (by omega)
  generalize hB : bl m = B at *
  have HB := Lib.hid hB
  clear hB
  go_enter Try.func41, Try.ntmps41
  go_wp2_with fail
  go_loop [0, 3] (fun v i => ∃ k : Nat, k ≤ B ∧ i = .int .i64 k ∧ v = .int .u64 ((m / 2 ^ k : Nat) : Int)) (fun _ i => B - (intOf i).toNat)
  case atStart => exact ⟨0, by omega, rfl, by simp⟩
  case round =>
    obtain ⟨k, hk, rfl, rfl⟩ := hrel
    have hq : m / 2 ^ k < 18446744073709551616 := Nat.lt_of_le_of_lt (Nat.div_le_self _ _) hm
    have hp := HP.out k
    have HN : Hid (m / 2 ^ (k + 1) = m / 2 ^ k / 2) := Lib.hid (by rw [Nat.pow_succ, Nat.div_div_eq_div_mul])
    generalize m / 2 ^ k = q at *
    by_cases hkl : k < B
    · have hq0 : (0 : Int) < (q : Int) := by have := hp.1 hkl; omega
      clear hp
      go_wp2_with fail
      go_round
      case rel => exact ⟨k + 1, hkl, by go_num, by rw [HN.out]; go_num⟩
      case measure => simp [intOf]; omega
    · have hq0 : q = 0 := by
        rcases Nat.eq_zero_or_pos q with h | h
        · exact h
        · exact absurd (hp.2 h) hkl
      obtain rfl : k = B := by omega
      subst hq0
      clear hp
      go_wp2
      go_ret
      exact ⟨rfl, rfl⟩
theorem four {w : World} {g : Nat} {t : TypeId} {c0 c1 c2 c3 : Value} (h : Blk w g t #[c0, c1, c2, c3]) : w.cell? ⟨g, 0, none⟩ = some c0 ∧ w.cell? ⟨g, 1, none⟩ = some c1 ∧ w.cell? ⟨g, 2, none⟩ = some c2 ∧ w.cell? ⟨g, 3, none⟩ = some c3 ∧
    g < w.heap.size ∧ (∀ i, w.frozen? ⟨g, i, none⟩ = false) := ⟨h.cell 0, h.cell 1, h.cell 2, h.cell 3, h.lt, fun i => h.frozen i⟩
set_option maxHeartbeats 2000000 in
theorem fit_id (m : Bool) (n : Nat) (q k : Int) (odd : Bool) (W : World) (hn : n < 16777216) (hq : -149 ≤ q) (hq2 : q ≤ 1000) :
    Calls Try.prog 42 #[numV m n q k, .int .i64 24, .int .i64 (-149), .bool odd] W fun e w' => e = .returned (numV m n q k) ∧ Below W.heap.size W w' := by
  have hbl : bl n ≤ 24 := bl_le (by omega)
  have HB := Lib.hid (fun W => bitlen_any n W (by omega))
  have HNV : Hid (numV m n q k = .agg #[.bool m, .int .u64 n, .int .i64 q, .int .i64 k]) := Lib.hid rfl
  have hA := (Blkf.new_at (n := W.heap.size) W 40 (0, 0) #[.bool m, .int .u64 n, .int .i64 q, .int .i64 k] rfl).alloc (.cells #[.bool false, .int .u64 0, .int .i64 0, .int .i64 0] 40)
  have HA := Lib.hid hA
  have hw1 : ((bl n : Nat) : Int) - 24 ≤ 0 := by omega
  have hw2 : -149 - q ≤ 0 := by omega
  generalize hBL : bl n = B at *
  rw [HNV.out]
  clear hA hBL
  go_enter Try.func42, Try.ntmps42
  go_wp2_with fail
  have hl := HA.out.lt
  have s1 := fun W' (h : Ext ((W.alloc (.cells #[.bool m, .int .u64 n, .int .i64 q, .int .i64 k] 40)).alloc (.cells #[.bool false, .int .u64 0, .int .i64 0, .int .i64 0] 40)).drew W') => (h.cell (p := ⟨W.heap.size, 1, none⟩) hl).trans (HA.out.drew.cell 1)
  have s2 := fun W' (h : Ext ((W.alloc (.cells #[.bool m, .int .u64 n, .int .i64 q, .int .i64 k] 40)).alloc (.cells #[.bool false, .int .u64 0, .int .i64 0, .int .i64 0] 40)).drew W') => (h.cell (p := ⟨W.heap.size, 2, none⟩) hl).trans (HA.out.drew.cell 2)
  refine wp_region_plan [(0, false), (1, false), (2, false), (3, false), (4, false), (5, false), (6, false), (7, false), (8, false), (9, false), (10, false)] (by kernel_rfl) (by kernel_rfl) (fun _ d _ _ _ h => by cases d <;> exact h) ?_
  iterate 2 (refine plan_take (v := ?_) rfl (by kernel_rfl) ?_ ?_; rotate_left; (focus (intro w' hw'; try go_simp; try with_reducible rfl)); simp only [Act.put, List.setIfInBounds_toArray, List.set_cons_zero, List.set_cons_succ])
  refine plan_quiet rfl (by kernel_rfl) (fun w' => by go_simp; all_goals (first | exact ⟨rfl, rfl⟩ | rfl)) (fun w' hw' => (HB.out w')) ?_
  simp only [Act.put, List.setIfInBounds_toArray, List.set_cons_zero, List.set_cons_succ]
  iterate 8 (refine plan_take (v := ?_) rfl (by kernel_rfl) ?_ ?_; rotate_left; (focus (intro w' hw'; try go_simp; try with_reducible rfl)); simp only [Act.put, List.setIfInBounds_toArray, List.set_cons_zero, List.set_cons_succ])
  clear s1 s2
  refine plan_end ?_
  have hc : (if IntKind.i64.wrap ((B : Int) - 24) < IntKind.i64.wrap (-149 - q) then IntKind.i64.wrap (-149 - q) else IntKind.i64.wrap ((B : Int) - 24)) ≤ 0 := by
    rw [IntKind.wrap_i64, IntKind.wrap_i64]
    split <;> omega
  generalize (if IntKind.i64.wrap ((B : Int) - 24) < IntKind.i64.wrap (-149 - q) then IntKind.i64.wrap (-149 - q) else IntKind.i64.wrap ((B : Int) - 24)) = cut at *
  have hR := (Blkf.new_at (n := W.heap.size + 1) (W.alloc (.cells #[.bool m, .int .u64 n, .int .i64 q, .int .i64 k] 40)) 40 (0, 0) #[.bool false, .int .u64 0, .int .i64 0, .int .i64 0] (by simp)).drew
  obtain ⟨a0, a1, a2, a3, al, af⟩ := four HA.out.drew
  obtain ⟨r0, r1, r2, r3, rl, rf⟩ := four hR
  have HF := Lib.hid ((((hR.set_ 0 (.bool m)).set_ 1 (.int .u64 n)).set_ 2 (.int .i64 q)).set_ 3 (.int .i64 k))
  clear hR hw2
  go_wp2
  have q0 := HF.out.cell 0
  have q1 := HF.out.cell 1
  have q2 := HF.out.cell 2
  have q3 := HF.out.cell 3
  simp only [List.setIfInBounds_toArray, List.set_cons_zero, List.set_cons_succ] at q0 q1 q2 q3
  exact bodyPost_ret (v := numV m n q k) (by simp [results, Try.results42, go_sem, numV, q0, q1, q2, q3]) rfl ⟨rfl, (((Below.refl _ W).alloc (Nat.le_refl _) _).alloc (by simp) _).drew⟩
end Go.Proofs.Ytoggkhaecafklaa
