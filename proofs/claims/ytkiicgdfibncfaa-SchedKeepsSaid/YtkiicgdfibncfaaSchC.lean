/- Robin. -/
import Derived.Test.YtkiicgdfibncfaaSchB
namespace Go.Proofs.Ytkiicgdfibncfaa
open Go.RowKit

def RobRel (W : World) (L : List A3) (v : Value) (wr : World) : Prop := OwnA W.heap.size wr v L ∧ Below W.heap.size W wr
theorem clamp {a : Int} {n : Nat} (h : n = a.toNat) : (if a < 0 then 0 else a) = (n : Int) := by split <;> omega
theorem app_step {W wr w' : World} {v v' : Value} {L : List A3} {x : A3} {o : Obj} (h : RobRel W L v wr) (ho : w'.ownsRow W.heap.size 48 3 v' (L.length + 1) (actsC L ++ actC x)) (hg : (wr.alloc o).grownBy w' v.ownBlock) : RobRel W (L ++ [x]) v' w' := by
  refine ⟨?_, (h.2.alloc h.2.size o).grown hg (Nat.le_trans h.2.size (by simp)) (fun g hg => (h.1.lt g hg).1)⟩
  unfold OwnA
  rw [actsC_append, List.length_append]
  simpa [actsC] using ho
theorem le_rounds {k r m T : Nat} (h : k < r) (h4 : r * m ≤ T) : k * m + m ≤ T := by
  have : (k + 1) * m ≤ r * m := Nat.mul_le_mul_right m h
  rw [Nat.succ_mul] at this
  omega
set_option maxHeartbeats 8000000 in
theorem robin_yes (n r d : Nat) (a b c : Int) (W : World) (ha : n = a.toNat) (hb : r = b.toNat) (hc : d = c.toNat) (h1 : n ≤ 100000) (h2 : r ≤ 100000) (h3 : d ≤ 100000) (h4 : r * (n + d + 1) ≤ 100000) :
    Calls Try.prog 15 #[.int .i64 a, .int .i64 b, .int .i64 c] W fun e w' => ∃ v, e = .returned v ∧ OwnA W.heap.size w' v (roundsL n r d) ∧ Below W.heap.size W w' := by
  obtain ⟨i0, hi0, hz0, hz1, hz2⟩ := info_parts info_act
  have m1 := clamp ha
  have m2 := clamp hb
  have m3 := clamp hc
  have e1 : decide (100000 < (n : Int)) = false := by simp; omega
  have e2 : decide (100000 < (r : Int)) = false := by simp; omega
  have e3 : decide (100000 < (d : Int)) = false := by simp; omega
  have e6 : ((n : Int) + d + 1) * r = ((r * (n + d + 1) : Nat) : Int) := by rw [Int.mul_comm]; simp
  have e4 : wrap64 (((n : Int) + d + 1) * r) = ((r * (n + d + 1) : Nat) : Int) := by rw [e6]; simp only [wrap64]; omega
  have e5 : decide (100000 < (wrap64 (((n : Int) + d + 1) * r))) = false := by rw [e4]; exact decide_eq_false (Int.not_lt.2 (Int.ofNat_le.2 h4))
  clear e6 e4 ha hb hc
  go_enter Try.func15, Try.ntmps15
  go_wp2_with fail
  go_loopw [7, 35] (fun v i wr => ∃ k : Nat, k ≤ r ∧ i = .int .i64 k ∧ RobRel W (roundsL n k d) v wr) (fun _ i _ => r - (intOf i).toNat)
  case atStart => exact ⟨0, by omega, rfl, World.ownsRow_nil _ _ _ _, Below.refl _ _⟩
  case round =>
    obtain ⟨k, hk, rfl, hR⟩ := hrel
    obtain ⟨A0, c0, rfl, _⟩ := hR.1.rd
    have HR0 := Lib.hid hR
    clear hR
    by_cases hkl : k < r
    · have hq := le_rounds (m := n + d + 1) hkl h4
      have HQ := Lib.hid (roundsL_len n k d)
      go_wp2_with fail
      go_loopw [7, 38] (fun v i wr => ∃ j : Nat, j ≤ n ∧ i = .int .i64 j ∧ RobRel W (roundsL n k d ++ (List.range j).map (fun i : Nat => ((0, (i : Int), 0) : A3))) v wr) (fun _ i _ => n - (intOf i).toNat)
      case atStart => exact ⟨0, by omega, rfl, by simpa using HR0.out⟩
      case round =>
        obtain ⟨j, hj, rfl, hR⟩ := hrel
        obtain ⟨A1, c1, rfl, _⟩ := hR.1.rd
        by_cases hjl : j < n
        · have hL : (roundsL n k d ++ (List.range j).map (fun i : Nat => ((0, (i : Int), 0) : A3))).length < 100000 := by simp [HQ.out]; omega
          generalize hLL : roundsL n k d ++ (List.range j).map (fun i : Nat => ((0, (i : Int), 0) : A3)) = L at hR hL
          have HLL := Lib.hid hLL
          have hWs := hR.2.size
          have HR := Lib.hid hR
          clear hR hLL
          go_wp2_with (at_builtin; refine wpList_append_any _ rfl (.tmp 41) (.tmp 44) _ rfl W.heap.size 48 i0 _ 3 24 Try.underlying34 hi0 hz0 hz1 hz2 rfl (by decide) _ L.length (actsC L) rfl (HR.out.1.alloc _) (wr.heap.size + 1) (some ⟨wr.heap.size, 0, none⟩) 1 1 (actC (0, (j : Int), 0)) rfl (reads_act wr _ (0, (j : Int), 0)) (one_act _) (by unfold maxLen; omega) (by omega) (by simp; omega) ?_; intro v2 w2 hown hgrow hat; have HR2 := Lib.hid (app_step HR.out hown hgrow); clear hown hgrow hat)
          go_roundw
          case rel => exact ⟨j + 1, hjl, by go_num, by rw [range_map_succ, ← List.append_assoc, HLL.out]; exact HR2.out⟩
          case measure => simp [intOf]; omega
        · obtain rfl : j = n := by omega
          have HR1 := Lib.hid hR
          clear hR
          go_wp2_with fail
          go_loopw [7, 48] (fun v i wr => ∃ q : Nat, q ≤ d ∧ i = .int .i64 q ∧ RobRel W (roundsL j k d ++ ((List.range j).map (fun i : Nat => ((0, (i : Int), 0) : A3)) ++ List.replicate q (1, 0, 0))) v wr) (fun _ i _ => d - (intOf i).toNat)
          case atStart => exact ⟨0, by omega, rfl, by simpa using HR1.out⟩
          case round =>
            obtain ⟨q, hqd, rfl, hR⟩ := hrel
            obtain ⟨A2, c2, rfl, _⟩ := hR.1.rd
            have hL : (roundsL j k d ++ ((List.range j).map (fun i : Nat => ((0, (i : Int), 0) : A3)) ++ List.replicate q (1, 0, 0))).length < 100000 := by simp [HQ.out]; omega
            generalize hLL : roundsL j k d ++ ((List.range j).map (fun i : Nat => ((0, (i : Int), 0) : A3)) ++ List.replicate q (1, 0, 0)) = L at hR hL
            have HLL := Lib.hid hLL
            have hWs := hR.2.size
            have HR := Lib.hid hR
            clear hR hLL
            by_cases hql : q < d
            · go_wp2_with (at_builtin; refine wpList_append_any _ rfl (.tmp 50) (.tmp 52) _ rfl W.heap.size 48 i0 _ 3 24 Try.underlying34 hi0 hz0 hz1 hz2 rfl (by decide) _ L.length (actsC L) rfl (HR.out.1.alloc _) (wr.heap.size + 1) (some ⟨wr.heap.size, 0, none⟩) 1 1 (actC (1, 0, 0)) rfl (reads_act wr _ (1, 0, 0)) (one_act _) (by unfold maxLen; omega) (by omega) (by simp; omega) ?_; intro v2 w2 hown hgrow hat; have HR2 := Lib.hid (app_step HR.out hown hgrow); clear hown hgrow hat)
              go_roundw
              case rel => exact ⟨q + 1, hql, by go_num, by rw [List.replicate_succ', ← List.append_assoc, ← List.append_assoc, List.append_assoc (roundsL j k d), HLL.out]; exact HR2.out⟩
              case measure => simp [intOf]; omega
            · obtain rfl : q = d := by omega
              go_wp2_with (at_builtin; refine wpList_append_any _ rfl (.tmp 55) (.tmp 57) _ rfl W.heap.size 48 i0 _ 3 24 Try.underlying34 hi0 hz0 hz1 hz2 rfl (by decide) _ L.length (actsC L) rfl (HR.out.1.alloc _) (wr.heap.size + 1) (some ⟨wr.heap.size, 0, none⟩) 1 1 (actC (6, 0, 0)) rfl (reads_act wr _ (6, 0, 0)) (one_act _) (by unfold maxLen; omega) (by omega) (by simp; omega) ?_; intro v2 w2 hown hgrow hat; have HR2 := Lib.hid (app_step HR.out hown hgrow); clear hown hgrow hat)
              go_roundw
              case rel => exact ⟨k + 1, hkl, by go_num, by rw [roundsL_succ, roundL, ← List.append_assoc, HLL.out]; exact HR2.out⟩
              case measure => simp [intOf]; omega
    · obtain rfl : k = r := by omega
      go_wp2
      go_ret
      exact ⟨_, rfl, HR0.out⟩
end Go.Proofs.Ytkiicgdfibncfaa
