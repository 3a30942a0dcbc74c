/- Contract of pte.Get, GetSatp. -/
import Derived.Test.YtmnpakfihfjfiaaPteC
import Derived.BigRegion
namespace Go.Proofs.Ytmnpakfihfjfiaa
open Go.RowKit

theorem rsw_eq (x : Nat) (hx : x < 18446744073709551616) : wrap64 (bits .and .u64 ((x : Int) / 256) 3) = ((x / 256 % 4 : Nat) : Int) := by
  have e : ((x : Int) / 256) = ((x / 256 : Nat) : Int) := by omega
  rw [e, and_mask (x / 256) 2 3 (by decide) rfl (by omega), IntWalk.wrap64_in _ (by omega)]
theorem ppn_eq (x : Nat) (hx : x < 18446744073709551616) : bits .and .u64 (x : Int) 18014398509481983 / 1024 = ((x / 1024 % 17592186044416 : Nat) : Int) := by
  rw [and_mask x 54 18014398509481983 (by decide) rfl hx]
  omega
theorem ok_eq (x : Nat) (hx : x < 18446744073709551616) : (bits .andNot .u64 (x : Int) 18014398509481983 == 0) = (x / 18014398509481984 == 0) := by
  have h := u64_andNot_nat x (2 ^ 54 - 1) hx (by decide)
  rw [show ((2 ^ 54 - 1 : Nat) : Int) = 18014398509481983 from rfl, show 18446744073709551615 - (2 ^ 54 - 1) = 2 ^ (54 + 10) - 2 ^ 54 from rfl, and_high x 54 10 hx] at h
  rw [h, show (2 : Nat) ^ 54 = 18014398509481984 from rfl, Bool.eq_iff_iff]
  simp only [beq_iff_eq]
  omega
theorem entry_eq (x : Nat) (hx : x < 18446744073709551616) : Value.agg #[.bool (x % 2 == 1), .bool (x / 2 % 2 == 1), .bool (x / 4 % 2 == 1), .bool (x / 8 % 2 == 1), .bool (x / 16 % 2 == 1), .bool (x / 32 % 2 == 1), .bool (x / 64 % 2 == 1), .bool (x / 128 % 2 == 1), .int .i64 (wrap64 (bits .and .u64 ((x : Int) / 256) 3)), .int .u64 (bits .and .u64 (x : Int) 18014398509481983 / 1024)] = entryV x := by
  rw [rsw_eq x hx, ppn_eq x hx]
  simp [entryV, bitB]
theorem three (x : Nat) (W : World) : ∃ W3, W3 = ((W.alloc (.cells #[.int .u64 (x : Int)] 23)).alloc (.cells #[.bool false, .bool false, .bool false, .bool false, .bool false, .bool false, .bool false, .bool false, .int .i64 0, .int .u64 0] 36)).alloc (.cells #[.bool (x % 2 == 1), .bool (x / 2 % 2 == 1), .bool (x / 4 % 2 == 1), .bool (x / 8 % 2 == 1), .bool (x / 16 % 2 == 1), .bool (x / 32 % 2 == 1), .bool (x / 64 % 2 == 1), .bool (x / 128 % 2 == 1), .int .i64 (wrap64 (bits .and .u64 ((x : Int) / 256) 3)), .int .u64 (bits .and .u64 (x : Int) 18014398509481983 / 1024)] 36) ∧ Below W.heap.size W W3 ∧ W3.cell? ⟨W.heap.size, 0, none⟩ = some (.int .u64 (x : Int)) ∧ W3.heap.size = W.heap.size + 1 + 1 + 1 ∧ W3.cell? ⟨W.heap.size + 1 + 1, 0, none⟩ = some (.bool (x % 2 == 1)) ∧ W3.cell? ⟨W.heap.size + 1 + 1, 1, none⟩ = some (.bool (x / 2 % 2 == 1)) ∧ W3.cell? ⟨W.heap.size + 1 + 1, 2, none⟩ = some (.bool (x / 4 % 2 == 1)) ∧ W3.cell? ⟨W.heap.size + 1 + 1, 3, none⟩ = some (.bool (x / 8 % 2 == 1)) ∧ W3.cell? ⟨W.heap.size + 1 + 1, 4, none⟩ = some (.bool (x / 16 % 2 == 1)) ∧ W3.cell? ⟨W.heap.size + 1 + 1, 5, none⟩ = some (.bool (x / 32 % 2 == 1)) ∧ W3.cell? ⟨W.heap.size + 1 + 1, 6, none⟩ = some (.bool (x / 64 % 2 == 1)) ∧ W3.cell? ⟨W.heap.size + 1 + 1, 7, none⟩ = some (.bool (x / 128 % 2 == 1)) ∧ W3.cell? ⟨W.heap.size + 1 + 1, 8, none⟩ = some (.int .i64 (wrap64 (bits .and .u64 ((x : Int) / 256) 3))) ∧ W3.cell? ⟨W.heap.size + 1 + 1, 9, none⟩ = some (.int .u64 (bits .and .u64 (x : Int) 18014398509481983 / 1024)) ∧ W3.cell? ⟨W.heap.size + 1, 0, none⟩ = some (.bool false) ∧ W3.cell? ⟨W.heap.size + 1, 1, none⟩ = some (.bool false) ∧ W3.cell? ⟨W.heap.size + 1, 2, none⟩ = some (.bool false) ∧ W3.cell? ⟨W.heap.size + 1, 3, none⟩ = some (.bool false) ∧ W3.cell? ⟨W.heap.size + 1, 4, none⟩ = some (.bool false) ∧ W3.cell? ⟨W.heap.size + 1, 5, none⟩ = some (.bool false) ∧ W3.cell? ⟨W.heap.size + 1, 6, none⟩ = some (.bool false) ∧ W3.cell? ⟨W.heap.size + 1, 7, none⟩ = some (.bool false) ∧ W3.cell? ⟨W.heap.size + 1, 8, none⟩ = some (.int .i64 0) ∧ W3.cell? ⟨W.heap.size + 1, 9, none⟩ = some (.int .u64 0) ∧ (∀ i, W3.frozen? ⟨W.heap.size + 1, i, none⟩ = false) := by
  refine ⟨_, rfl, by go_grown, ?_⟩
  simp [go_sem]

theorem pte_save_set {g i : Nat} {w w' : World} {v : Value} (h : Save g w w') : Save g w (w'.setCell ⟨g, i, none⟩ v) := fun p hp => by
  rw [World.cell?_setCell_other _ _ _ _ (by rintro rfl; exact hp rfl)]; exact h p hp
theorem pte_save_drew {g : Nat} {w w' : World} (h : Save g w w') : Save g w.drew w'.drew := h
set_option maxHeartbeats 2000000 in
theorem get_any (x : Nat) (W : World) (hx : x < 18446744073709551616) :
    Calls Try.prog 44 #[.int .u64 (x : Int)] W fun e w' => e = .returned (.tuple #[entryV x, .bool (x / 18014398509481984 == 0)]) ∧ Below W.heap.size W w' := by
  have HX := Lib.hid hx
  clear hx
  have h3 := three x W
  have H3 := Lib.hid h3
  clear h3
  go_enter Try.func44, Try.ntmps44
  go_wp2_with (go_at_call 56; refine (getfn_any x _ _ _ HX.out (by decide) (by decide) (by simp)).mono ?_; rintro e w' ⟨rfl, rfl⟩)
  obtain ⟨W3, hW3, hb, hcx, hsz, hc0, hc1, hc2, hc3, hc4, hc5, hc6, hc7, hc8, hc9, hz0, hz1, hz2, hz3, hz4, hz5, hz6, hz7, hz8, hz9, hfz⟩ := H3.out
  rw [← hW3]
  clear hW3 H3
  have HB := Lib.hid hb
  clear hb
  have hs0 := fun W' (h : Save (W.heap.size + 1) W3.drew W') => (h ⟨W.heap.size + 1 + 1, 0, none⟩ (by simp)).trans hc0
  have hs1 := fun W' (h : Save (W.heap.size + 1) W3.drew W') => (h ⟨W.heap.size + 1 + 1, 1, none⟩ (by simp)).trans hc1
  have hs2 := fun W' (h : Save (W.heap.size + 1) W3.drew W') => (h ⟨W.heap.size + 1 + 1, 2, none⟩ (by simp)).trans hc2
  have hs3 := fun W' (h : Save (W.heap.size + 1) W3.drew W') => (h ⟨W.heap.size + 1 + 1, 3, none⟩ (by simp)).trans hc3
  have hs4 := fun W' (h : Save (W.heap.size + 1) W3.drew W') => (h ⟨W.heap.size + 1 + 1, 4, none⟩ (by simp)).trans hc4
  have hs5 := fun W' (h : Save (W.heap.size + 1) W3.drew W') => (h ⟨W.heap.size + 1 + 1, 5, none⟩ (by simp)).trans hc5
  have hs6 := fun W' (h : Save (W.heap.size + 1) W3.drew W') => (h ⟨W.heap.size + 1 + 1, 6, none⟩ (by simp)).trans hc6
  have hs7 := fun W' (h : Save (W.heap.size + 1) W3.drew W') => (h ⟨W.heap.size + 1 + 1, 7, none⟩ (by simp)).trans hc7
  have hs8 := fun W' (h : Save (W.heap.size + 1) W3.drew W') => (h ⟨W.heap.size + 1 + 1, 8, none⟩ (by simp)).trans hc8
  have hs9 := fun W' (h : Save (W.heap.size + 1) W3.drew W') => (h ⟨W.heap.size + 1 + 1, 9, none⟩ (by simp)).trans hc9
  have hsx := fun W' (h : Save (W.heap.size + 1) W3.drew W') => (h ⟨W.heap.size, 0, none⟩ (by simp)).trans hcx
  refine wp_region_plan_by (Save (W.heap.size + 1)) (later_save _) [(0, false), (1, false), (2, false), (3, false), (4, true), (5, false)] (by kernel_rfl) (by kernel_rfl) (fun _ d _ _ _ h => by cases d <;> exact h) ?_
  iterate 4 (refine plan_take (v := ?_) rfl (by kernel_rfl) ?_ ?_; rotate_left; (focus (intro w' hw'; try go_simp; try with_reducible rfl)); simp only [Act.put, List.setIfInBounds_toArray, List.set_cons_zero, List.set_cons_succ])
  refine plan_turn rfl (by kernel_rfl) (fun K hK => ?_)
  go_simp
  refine hK _ _ ⟨pte_save_drew (by repeat (first | (with_reducible exact (later_save _).refl _) | (with_reducible refine pte_save_set ?_))), ?_⟩
  iterate 1 (refine plan_take (v := ?_) rfl (by kernel_rfl) ?_ ?_; rotate_left; (focus (intro w' hw'; try go_simp; try with_reducible rfl)); simp only [Act.put, List.setIfInBounds_toArray, List.set_cons_zero, List.set_cons_succ])
  refine plan_end ?_
  clear hs0 hs1 hs2 hs3 hs4 hs5 hs6 hs7 hs8 hs9 hsx hc0 hc1 hc2 hc3 hc4 hc5 hc6 hc7 hc8 hc9 hcx
  go_wp2
  refine bodyPost_ret (v := .tuple #[.agg #[.bool (x % 2 == 1), .bool (x / 2 % 2 == 1), .bool (x / 4 % 2 == 1), .bool (x / 8 % 2 == 1), .bool (x / 16 % 2 == 1), .bool (x / 32 % 2 == 1), .bool (x / 64 % 2 == 1), .bool (x / 128 % 2 == 1), .int .i64 (wrap64 (bits .and .u64 ((x : Int) / 256) 3)), .int .u64 (bits .and .u64 (x : Int) 18014398509481983 / 1024)], .bool (bits .andNot .u64 (x : Int) 18014398509481983 == 0)]) (by simp [results, Try.results44, go_sem, hz0, hz1, hz2, hz3, hz4, hz5, hz6, hz7, hz8, hz9]) rfl ⟨?_, ?_⟩
  · rw [entry_eq x HX.out, ok_eq x HX.out]
  · have hB := HB.out
    refine Below.drew ?_
    repeat (first | (with_reducible exact hB) | (with_reducible refine Below.setCell ?_ (by simp) _))
end Go.Proofs.Ytmnpakfihfjfiaa
