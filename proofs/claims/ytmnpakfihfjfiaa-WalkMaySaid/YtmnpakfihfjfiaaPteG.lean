/- Contract of the reference's Get. -/
import Derived.Test.YtmnpakfihfjfiaaPteD
namespace Go.Proofs.Ytmnpakfihfjfiaa
open Go.RowKit

theorem field_drew (v : Nat) (a n : Int) (w : World) (hv : v < 18446744073709551616) (ha : 0 ≤ a) (hn : 0 ≤ n) (hn63 : n ≤ 63) (h : a + n ≤ 63) :
    Calls Try.prog 51 #[.int .u64 v, .int .i64 a, .int .i64 n] w fun e w' => e = .returned (.int .u64 ((fieldV v a.toNat n.toNat : Nat) : Int)) ∧ w.drew = w' := by
  unfold fieldV
  have hp := Nat.two_pow_pos a.toNat
  generalize hP : 2 ^ a.toNat = P at hp ⊢
  have hr := Nat.two_pow_pos n.toNat
  generalize hR : 2 ^ n.toNat = R at hr ⊢
  have HP := Lib.hid hP
  have HR := Lib.hid hR
  clear hP hR
  have e64 : ((a + n : Int) == 64) = false := by rw [beq_eq_false_iff_ne]; omega
  go_enter Try.func51, Try.ntmps51
  go_wp2_with fail
  refine wp_region_plan [(0, false), (1, false), (4, false), (2, true), (3, false), (5, true), (6, false), (7, false)] (by kernel_rfl) (by kernel_rfl) (fun _ d _ _ _ h => by cases d <;> exact h) ?_
  iterate 3 (refine plan_take (v := ?_) rfl (by kernel_rfl) ?_ ?_; rotate_left; (focus (intro w' hw'; try go_simp; try with_reducible rfl)); simp only [Act.put, List.setIfInBounds_toArray, List.set_cons_zero, List.set_cons_succ])
  refine plan_call rfl (by kernel_rfl) (by go_simp; exact ⟨rfl, rfl⟩) ?_
  refine (pow_any a _ ha (by omega)).mono ?_
  rintro e w' ⟨rfl, rfl⟩
  rw [HP.out]
  refine ⟨_, rfl, Ext.refl _, ?_⟩
  simp only [Act.put, List.setIfInBounds_toArray, List.set_cons_zero, List.set_cons_succ]
  have hz : ¬ (P = 0) := by omega
  have hd := div_u64 v P hv
  iterate 1 (refine plan_take (v := ?_) rfl (by kernel_rfl) ?_ ?_; rotate_left; (focus (intro w' hw'; try go_simp; try with_reducible rfl)); simp only [Act.put, List.setIfInBounds_toArray, List.set_cons_zero, List.set_cons_succ])
  refine plan_call rfl (by kernel_rfl) (by go_simp; exact ⟨rfl, rfl⟩) ?_
  refine (pow_any n _ hn hn63).mono ?_
  rintro e w' ⟨rfl, rfl⟩
  rw [HR.out]
  refine ⟨_, rfl, Ext.refl _, ?_⟩
  simp only [Act.put, List.setIfInBounds_toArray, List.set_cons_zero, List.set_cons_succ]
  have hzr : ¬ (R = 0) := by omega
  iterate 2 (refine plan_take (v := ?_) rfl (by kernel_rfl) ?_ ?_; rotate_left; (focus (intro w' hw'; try go_simp; try with_reducible rfl)); simp only [Act.put, List.setIfInBounds_toArray, List.set_cons_zero, List.set_cons_succ])
  refine plan_end ?_
  clear hd hz hzr
  go_wp2
  go_ret
  exact ⟨by rw [← fin_field]; rfl, rfl⟩

theorem pte_wp_world {P : Program} {c : Code} {Q : Exit → Act → World → Prop} {a : Act} {w : World} (h : ∀ w0, w0 = w → c.wp P Q a w0) : c.wp P Q a w := h w rfl

theorem rget_eq (x : Nat) : Value.agg #[.bool (((fieldV x 0 1 : Nat) : Int) == 1), .bool (((fieldV x 1 1 : Nat) : Int) == 1), .bool (((fieldV x 2 1 : Nat) : Int) == 1), .bool (((fieldV x 3 1 : Nat) : Int) == 1), .bool (((fieldV x 4 1 : Nat) : Int) == 1), .bool (((fieldV x 5 1 : Nat) : Int) == 1), .bool (((fieldV x 6 1 : Nat) : Int) == 1), .bool (((fieldV x 7 1 : Nat) : Int) == 1), .int .i64 (wrap64 ((fieldV x 8 2 : Nat) : Int)), .int .u64 ((fieldV x 10 44 : Nat) : Int)] = entryV x := by
  have h8 : fieldV x 8 2 < 4 := fieldV_lt x 8 2
  have e : ∀ j, (((fieldV x j 1 : Nat) : Int) == 1) = bitB x j := by
    intro j
    rw [Bool.eq_iff_iff]
    simp only [bitB, fieldV, beq_iff_eq, Nat.reducePow]
    omega
  rw [IntWalk.wrap64_in _ (by omega), e, e, e, e, e, e, e, e]
  rfl

set_option maxHeartbeats 2000000 in
theorem pte_rget_any (x : Nat) (W : World) (hx : x < 18446744073709551616) :
    Calls Try.prog 39 #[.int .u64 (x : Int)] W fun e w' => e = .returned (.tuple #[entryV x, .bool (x / 18014398509481984 == 0)]) ∧ Below W.heap.size W w' := by
  have HX := Lib.hid hx
  clear hx
  go_enter Try.func39, Try.ntmps39
  iterate 10
    go_wp2_with fail
    refine (field_drew _ _ _ _ HX.out (by decide) (by decide) (by decide) (by decide)).mono ?_
    rintro e w' ⟨rfl, rfl⟩
  go_wp2_with fail
  refine pte_wp_world (fun W3 hW3 => ?_)
  have hb : Below W.heap.size W W3 := by rw [hW3]; go_grown
  have hfz : ∀ i, W3.frozen? ⟨W.heap.size, i, none⟩ = false := by intro i; rw [hW3]; simp [go_sem]
  have hc0 : W3.cell? ⟨W.heap.size + 1, 0, none⟩ = some (.bool (((fieldV x 0 1 : Nat) : Int) == 1)) := by rw [hW3]; simp [go_sem]
  have hc1 : W3.cell? ⟨W.heap.size + 1, 1, none⟩ = some (.bool (((fieldV x 1 1 : Nat) : Int) == 1)) := by rw [hW3]; simp [go_sem]
  have hc2 : W3.cell? ⟨W.heap.size + 1, 2, none⟩ = some (.bool (((fieldV x 2 1 : Nat) : Int) == 1)) := by rw [hW3]; simp [go_sem]
  have hc3 : W3.cell? ⟨W.heap.size + 1, 3, none⟩ = some (.bool (((fieldV x 3 1 : Nat) : Int) == 1)) := by rw [hW3]; simp [go_sem]
  have hc4 : W3.cell? ⟨W.heap.size + 1, 4, none⟩ = some (.bool (((fieldV x 4 1 : Nat) : Int) == 1)) := by rw [hW3]; simp [go_sem]
  have hc5 : W3.cell? ⟨W.heap.size + 1, 5, none⟩ = some (.bool (((fieldV x 5 1 : Nat) : Int) == 1)) := by rw [hW3]; simp [go_sem]
  have hc6 : W3.cell? ⟨W.heap.size + 1, 6, none⟩ = some (.bool (((fieldV x 6 1 : Nat) : Int) == 1)) := by rw [hW3]; simp [go_sem]
  have hc7 : W3.cell? ⟨W.heap.size + 1, 7, none⟩ = some (.bool (((fieldV x 7 1 : Nat) : Int) == 1)) := by rw [hW3]; simp [go_sem]
  have hc8 : W3.cell? ⟨W.heap.size + 1, 8, none⟩ = some (.int .i64 (wrap64 ((fieldV x 8 2 : Nat) : Int))) := by rw [hW3]; simp [go_sem]
  have hc9 : W3.cell? ⟨W.heap.size + 1, 9, none⟩ = some (.int .u64 ((fieldV x 10 44 : Nat) : Int)) := by rw [hW3]; simp [go_sem]
  have hz0 : W3.cell? ⟨W.heap.size, 0, none⟩ = some (.bool false) := by rw [hW3]; simp [go_sem]
  have hz1 : W3.cell? ⟨W.heap.size, 1, none⟩ = some (.bool false) := by rw [hW3]; simp [go_sem]
  have hz2 : W3.cell? ⟨W.heap.size, 2, none⟩ = some (.bool false) := by rw [hW3]; simp [go_sem]
  have hz3 : W3.cell? ⟨W.heap.size, 3, none⟩ = some (.bool false) := by rw [hW3]; simp [go_sem]
  have hz4 : W3.cell? ⟨W.heap.size, 4, none⟩ = some (.bool false) := by rw [hW3]; simp [go_sem]
  have hz5 : W3.cell? ⟨W.heap.size, 5, none⟩ = some (.bool false) := by rw [hW3]; simp [go_sem]
  have hz6 : W3.cell? ⟨W.heap.size, 6, none⟩ = some (.bool false) := by rw [hW3]; simp [go_sem]
  have hz7 : W3.cell? ⟨W.heap.size, 7, none⟩ = some (.bool false) := by rw [hW3]; simp [go_sem]
  have hz8 : W3.cell? ⟨W.heap.size, 8, none⟩ = some (.int .i64 0) := by rw [hW3]; simp [go_sem]
  have hz9 : W3.cell? ⟨W.heap.size, 9, none⟩ = some (.int .u64 0) := by rw [hW3]; simp [go_sem]
  clear hW3
  have HB := Lib.hid hb
  clear hb
  have hs0 := fun W' (h : Save W.heap.size W3.drew W') => (h ⟨W.heap.size + 1, 0, none⟩ (by simp)).trans hc0
  have hs1 := fun W' (h : Save W.heap.size W3.drew W') => (h ⟨W.heap.size + 1, 1, none⟩ (by simp)).trans hc1
  have hs2 := fun W' (h : Save W.heap.size W3.drew W') => (h ⟨W.heap.size + 1, 2, none⟩ (by simp)).trans hc2
  have hs3 := fun W' (h : Save W.heap.size W3.drew W') => (h ⟨W.heap.size + 1, 3, none⟩ (by simp)).trans hc3
  have hs4 := fun W' (h : Save W.heap.size W3.drew W') => (h ⟨W.heap.size + 1, 4, none⟩ (by simp)).trans hc4
  have hs5 := fun W' (h : Save W.heap.size W3.drew W') => (h ⟨W.heap.size + 1, 5, none⟩ (by simp)).trans hc5
  have hs6 := fun W' (h : Save W.heap.size W3.drew W') => (h ⟨W.heap.size + 1, 6, none⟩ (by simp)).trans hc6
  have hs7 := fun W' (h : Save W.heap.size W3.drew W') => (h ⟨W.heap.size + 1, 7, none⟩ (by simp)).trans hc7
  have hs8 := fun W' (h : Save W.heap.size W3.drew W') => (h ⟨W.heap.size + 1, 8, none⟩ (by simp)).trans hc8
  have hs9 := fun W' (h : Save W.heap.size W3.drew W') => (h ⟨W.heap.size + 1, 9, none⟩ (by simp)).trans hc9
  refine wp_region_plan_by (Save W.heap.size) (later_save _) [(0, false), (1, false), (2, true), (3, false), (4, true), (5, false)] (by kernel_rfl) (by kernel_rfl) (fun _ d _ _ _ h => by cases d <;> exact h) ?_
  iterate 2 (refine plan_take (v := ?_) rfl (by kernel_rfl) ?_ ?_; rotate_left; (focus (intro w' hw'; try go_simp; try with_reducible rfl)); simp only [Act.put, List.setIfInBounds_toArray, List.set_cons_zero, List.set_cons_succ])
  refine plan_call rfl (by kernel_rfl) (by go_simp; exact ⟨rfl, rfl⟩) ?_
  refine (field64_any x 54 10 _ HX.out (by decide) (by decide) (by decide)).mono ?_
  rintro e w' ⟨rfl, rfl⟩
  refine ⟨_, rfl, (later_save _).refl _, ?_⟩
  simp only [Act.put, List.setIfInBounds_toArray, List.set_cons_zero, List.set_cons_succ]
  iterate 1 (refine plan_take (v := ?_) rfl (by kernel_rfl) ?_ ?_; rotate_left; (focus (intro w' hw'; try go_simp; try with_reducible rfl)); simp only [Act.put, List.setIfInBounds_toArray, List.set_cons_zero, List.set_cons_succ])
  refine plan_turn rfl (by kernel_rfl) (fun K hK => ?_)
  go_simp
  refine hK _ _ ⟨pte_save_drew (by repeat (first | (with_reducible exact (later_save _).refl _) | (with_reducible refine pte_save_set ?_))), ?_⟩
  iterate 1 (refine plan_take (v := ?_) rfl (by kernel_rfl) ?_ ?_; rotate_left; (focus (intro w' hw'; try go_simp; try with_reducible rfl)); simp only [Act.put, List.setIfInBounds_toArray, List.set_cons_zero, List.set_cons_succ])
  refine plan_end ?_
  clear hs0 hs1 hs2 hs3 hs4 hs5 hs6 hs7 hs8 hs9 hc0 hc1 hc2 hc3 hc4 hc5 hc6 hc7 hc8 hc9
  go_wp2
  refine bodyPost_ret (v := .tuple #[.agg #[.bool (((fieldV x 0 1 : Nat) : Int) == 1), .bool (((fieldV x 1 1 : Nat) : Int) == 1), .bool (((fieldV x 2 1 : Nat) : Int) == 1), .bool (((fieldV x 3 1 : Nat) : Int) == 1), .bool (((fieldV x 4 1 : Nat) : Int) == 1), .bool (((fieldV x 5 1 : Nat) : Int) == 1), .bool (((fieldV x 6 1 : Nat) : Int) == 1), .bool (((fieldV x 7 1 : Nat) : Int) == 1), .int .i64 (wrap64 ((fieldV x 8 2 : Nat) : Int)), .int .u64 ((fieldV x 10 44 : Nat) : Int)], .bool (((fieldV x 54 10 : Nat) : Int) == 0)]) (by simp [results, Try.results39, go_sem, hz0, hz1, hz2, hz3, hz4, hz5, hz6, hz7, hz8, hz9]) rfl ⟨?_, ?_⟩
  rotate_left
  · have hB := HB.out
    repeat (first | (with_reducible exact hB) | (with_reducible refine Below.drew ?_) | (with_reducible refine Below.setCell ?_ (by simp) _))
  rw [rget_eq x]
  have hv := HX.out
  have e : (((fieldV x 54 10 : Nat) : Int) == 0) = (x / 18014398509481984 == 0) := by
    rw [Bool.eq_iff_iff]
    simp only [fieldV, beq_iff_eq, Nat.reducePow]
    omega
  rw [e]
end Go.Proofs.Ytmnpakfihfjfiaa
