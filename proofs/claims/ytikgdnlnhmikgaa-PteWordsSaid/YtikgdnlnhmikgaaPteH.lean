/- Contract of the reference's Put. -/
import Derived.Test.YtikgdnlnhmikgaaPteG
namespace Go.Proofs.Ytikgdnlnhmikgaa
open Go.RowKit

theorem one_any (b : Bool) (w : World) :
    Calls Try.prog 30 #[.bool b] w fun e w' => e = .returned (.int .u64 ((bt b : Nat) : Int)) ∧ w = w' := by
  cases b
  all_goals
    go_enter Try.func30, Try.ntmps30
    go_wp2
    go_ret
    exact ⟨rfl, rfl⟩
theorem bt_le (b : Bool) : bt b ≤ 1 := by cases b <;> decide

theorem tmod4 (n : Int) : (0 ≤ n.tmod 4 ∧ n.tmod 4 = n % 4) ∨ (n.tmod 4 < 0 ∧ n.tmod 4 + 4 = n % 4) := by
  by_cases h : 0 ≤ n
  · rw [Int.tmod_eq_emod_of_nonneg h]; omega
  · have h1 : (-n).tmod 4 = -n % 4 := Int.tmod_eq_emod_of_nonneg (by omega)
    rw [Int.neg_tmod] at h1
    omega

theorem rput_eq (v r w x u g a d : Bool) (rsw ppn Q : Int) (hp : 0 ≤ ppn ∧ ppn < 18446744073709551616) (hQ : Q = rsw % 4) :
    IntKind.u64.wrap (IntKind.u64.wrap (IntKind.u64.wrap (IntKind.u64.wrap (IntKind.u64.wrap (IntKind.u64.wrap (IntKind.u64.wrap (IntKind.u64.wrap (IntKind.u64.wrap ((bt v : Int) + IntKind.u64.wrap (2 * (bt r : Int))) + IntKind.u64.wrap (4 * (bt w : Int))) + IntKind.u64.wrap (8 * (bt x : Int))) + IntKind.u64.wrap (16 * (bt u : Int))) + IntKind.u64.wrap (32 * (bt g : Int))) + IntKind.u64.wrap (64 * (bt a : Int))) + IntKind.u64.wrap (128 * (bt d : Int))) + IntKind.u64.wrap (256 * IntKind.u64.wrap Q)) + IntKind.u64.wrap (1024 * ppn.tmod 17592186044416)) = ((putV v r w x u g a d rsw ppn : Nat) : Int) := by
  have := bt_le v
  have := bt_le r
  have := bt_le w
  have := bt_le x
  have := bt_le u
  have := bt_le g
  have := bt_le a
  have := bt_le d
  rw [Int.tmod_eq_emod_of_nonneg hp.1]
  have hq : 0 ≤ Q ∧ Q < 4 := by omega
  rw [IntWalk.u64_in (2 * (bt r : Int)) (by omega), IntWalk.u64_in ((bt v : Int) + (2 * (bt r : Int))) (by omega), IntWalk.u64_in (4 * (bt w : Int)) (by omega), IntWalk.u64_in (((bt v : Int) + (2 * (bt r : Int))) + (4 * (bt w : Int))) (by omega), IntWalk.u64_in (8 * (bt x : Int)) (by omega), IntWalk.u64_in ((((bt v : Int) + (2 * (bt r : Int))) + (4 * (bt w : Int))) + (8 * (bt x : Int))) (by omega), IntWalk.u64_in (16 * (bt u : Int)) (by omega), IntWalk.u64_in (((((bt v : Int) + (2 * (bt r : Int))) + (4 * (bt w : Int))) + (8 * (bt x : Int))) + (16 * (bt u : Int))) (by omega), IntWalk.u64_in (32 * (bt g : Int)) (by omega), IntWalk.u64_in ((((((bt v : Int) + (2 * (bt r : Int))) + (4 * (bt w : Int))) + (8 * (bt x : Int))) + (16 * (bt u : Int))) + (32 * (bt g : Int))) (by omega), IntWalk.u64_in (64 * (bt a : Int)) (by omega), IntWalk.u64_in (((((((bt v : Int) + (2 * (bt r : Int))) + (4 * (bt w : Int))) + (8 * (bt x : Int))) + (16 * (bt u : Int))) + (32 * (bt g : Int))) + (64 * (bt a : Int))) (by omega), IntWalk.u64_in (128 * (bt d : Int)) (by omega), IntWalk.u64_in ((((((((bt v : Int) + (2 * (bt r : Int))) + (4 * (bt w : Int))) + (8 * (bt x : Int))) + (16 * (bt u : Int))) + (32 * (bt g : Int))) + (64 * (bt a : Int))) + (128 * (bt d : Int))) (by omega), IntWalk.u64_in Q (by omega), IntWalk.u64_in (256 * Q) (by omega), IntWalk.u64_in (((((((((bt v : Int) + (2 * (bt r : Int))) + (4 * (bt w : Int))) + (8 * (bt x : Int))) + (16 * (bt u : Int))) + (32 * (bt g : Int))) + (64 * (bt a : Int))) + (128 * (bt d : Int))) + 256 * Q) (by omega), IntWalk.u64_in (1024 * (ppn % 17592186044416)) (by omega), IntWalk.u64_in ((((((((((bt v : Int) + (2 * (bt r : Int))) + (4 * (bt w : Int))) + (8 * (bt x : Int))) + (16 * (bt u : Int))) + (32 * (bt g : Int))) + (64 * (bt a : Int))) + (128 * (bt d : Int))) + 256 * Q) + 1024 * (ppn % 17592186044416)) (by omega)]
  unfold putV
  omega

set_option maxHeartbeats 4000000 in
theorem rput_any (v r w x u g a d : Bool) (rsw ppn : Int) (W : World) (hp : 0 ≤ ppn ∧ ppn < 18446744073709551616) :
    Calls Try.prog 11 #[.agg #[.bool v, .bool r, .bool w, .bool x, .bool u, .bool g, .bool a, .bool d, .int .i64 rsw, .int .u64 ppn]] W fun e w' => e = .returned (.int .u64 ((putV v r w x u g a d rsw ppn : Nat) : Int)) ∧ Below W.heap.size W w' := by
  have hs : (rsw.tmod 4 < 0 ∧ rsw.tmod 4 + 4 = rsw % 4) ∨ (¬ rsw.tmod 4 < 0 ∧ rsw.tmod 4 = rsw % 4) := by
    have := tmod4 rsw
    omega
  have hm : rsw.tmod 4 < 4 ∧ -4 < rsw.tmod 4 := ⟨Int.tmod_lt_of_pos _ (by decide), Int.lt_tmod_of_pos _ (by decide)⟩
  generalize hR : rsw.tmod 4 = R at hs hm
  have HP := Lib.hid hp
  clear hp
  obtain ⟨hm1, hm2⟩ := hm
  rcases hs with ⟨h1, h2⟩ | ⟨h1, h2⟩
  all_goals
    have H2 := Lib.hid h2
    clear h2
    go_enter Try.func11, Try.ntmps11
    go_wp2_with fail
    refine wp_world (fun W3 hW3 => ?_)
    have hc0 : W3.cell? ⟨W.heap.size, 0, none⟩ = some (.bool v) := by rw [hW3]; simp [go_sem]
    have hc1 : W3.cell? ⟨W.heap.size, 1, none⟩ = some (.bool r) := by rw [hW3]; simp [go_sem]
    have hc2 : W3.cell? ⟨W.heap.size, 2, none⟩ = some (.bool w) := by rw [hW3]; simp [go_sem]
    have hc3 : W3.cell? ⟨W.heap.size, 3, none⟩ = some (.bool x) := by rw [hW3]; simp [go_sem]
    have hc4 : W3.cell? ⟨W.heap.size, 4, none⟩ = some (.bool u) := by rw [hW3]; simp [go_sem]
    have hc5 : W3.cell? ⟨W.heap.size, 5, none⟩ = some (.bool g) := by rw [hW3]; simp [go_sem]
    have hc6 : W3.cell? ⟨W.heap.size, 6, none⟩ = some (.bool a) := by rw [hW3]; simp [go_sem]
    have hc7 : W3.cell? ⟨W.heap.size, 7, none⟩ = some (.bool d) := by rw [hW3]; simp [go_sem]
    have hc8 : W3.cell? ⟨W.heap.size, 8, none⟩ = some (.int .i64 rsw) := by rw [hW3]; simp [go_sem]
    have hc9 : W3.cell? ⟨W.heap.size, 9, none⟩ = some (.int .u64 ppn) := by rw [hW3]; simp [go_sem]
    have hb : Below W.heap.size W W3 := by rw [hW3]; go_grown
    have hl : W.heap.size < W3.heap.size := cell_lt hc0
    clear hW3
    have HB := Lib.hid hb
    clear hb
    have hs0 := fun W' (h : Ext W3.drew W') => (h.cell (p := ⟨W.heap.size, 0, none⟩) hl).trans hc0
    have hs1 := fun W' (h : Ext W3.drew W') => (h.cell (p := ⟨W.heap.size, 1, none⟩) hl).trans hc1
    have hs2 := fun W' (h : Ext W3.drew W') => (h.cell (p := ⟨W.heap.size, 2, none⟩) hl).trans hc2
    have hs3 := fun W' (h : Ext W3.drew W') => (h.cell (p := ⟨W.heap.size, 3, none⟩) hl).trans hc3
    have hs4 := fun W' (h : Ext W3.drew W') => (h.cell (p := ⟨W.heap.size, 4, none⟩) hl).trans hc4
    have hs5 := fun W' (h : Ext W3.drew W') => (h.cell (p := ⟨W.heap.size, 5, none⟩) hl).trans hc5
    have hs6 := fun W' (h : Ext W3.drew W') => (h.cell (p := ⟨W.heap.size, 6, none⟩) hl).trans hc6
    have hs7 := fun W' (h : Ext W3.drew W') => (h.cell (p := ⟨W.heap.size, 7, none⟩) hl).trans hc7
    have hs8 := fun W' (h : Ext W3.drew W') => (h.cell (p := ⟨W.heap.size, 8, none⟩) hl).trans hc8
    have hs9 := fun W' (h : Ext W3.drew W') => (h.cell (p := ⟨W.heap.size, 9, none⟩) hl).trans hc9
    refine wp_region_plan [(0, false), (1, false), (3, false), (4, false), (8, false), (9, false), (13, false), (14, false), (18, false), (19, false), (23, false), (24, false), (28, false), (29, false), (33, false), (34, false), (2, true), (5, true), (6, false), (7, false), (10, true), (11, false), (12, false), (15, true), (16, false), (17, false), (20, true), (21, false), (22, false), (25, true), (26, false), (27, false), (30, true), (31, false), (32, false), (35, true), (36, false), (37, false), (38, false)] (by kernel_rfl) (by kernel_rfl) (fun _ d _ _ _ h => by cases d <;> exact h) ?_
    iterate 16 (refine plan_take (v := ?_) rfl (by kernel_rfl) ?_ ?_; rotate_left; (focus (intro w' hw'; go_simp; try with_reducible rfl)); simp only [Act.put, List.setIfInBounds_toArray, List.set_cons_zero, List.set_cons_succ])
    refine plan_call rfl (by kernel_rfl) (by go_simp; exact ⟨rfl, rfl⟩) ?_
    refine (one_any _ _).mono ?_
    rintro e w' ⟨rfl, rfl⟩
    refine ⟨_, rfl, Ext.refl _, ?_⟩
    simp only [Act.put, List.setIfInBounds_toArray, List.set_cons_zero, List.set_cons_succ]
    refine plan_call rfl (by kernel_rfl) (by go_simp; exact ⟨rfl, rfl⟩) ?_
    refine (one_any _ _).mono ?_
    rintro e w' ⟨rfl, rfl⟩
    refine ⟨_, rfl, Ext.refl _, ?_⟩
    simp only [Act.put, List.setIfInBounds_toArray, List.set_cons_zero, List.set_cons_succ]
    iterate 2 (refine plan_take (v := ?_) rfl (by kernel_rfl) ?_ ?_; rotate_left; (focus (intro w' hw'; go_simp; try with_reducible rfl)); simp only [Act.put, List.setIfInBounds_toArray, List.set_cons_zero, List.set_cons_succ])
    refine plan_call rfl (by kernel_rfl) (by go_simp; exact ⟨rfl, rfl⟩) ?_
    refine (one_any _ _).mono ?_
    rintro e w' ⟨rfl, rfl⟩
    refine ⟨_, rfl, Ext.refl _, ?_⟩
    simp only [Act.put, List.setIfInBounds_toArray, List.set_cons_zero, List.set_cons_succ]
    iterate 2 (refine plan_take (v := ?_) rfl (by kernel_rfl) ?_ ?_; rotate_left; (focus (intro w' hw'; go_simp; try with_reducible rfl)); simp only [Act.put, List.setIfInBounds_toArray, List.set_cons_zero, List.set_cons_succ])
    refine plan_call rfl (by kernel_rfl) (by go_simp; exact ⟨rfl, rfl⟩) ?_
    refine (one_any _ _).mono ?_
    rintro e w' ⟨rfl, rfl⟩
    refine ⟨_, rfl, Ext.refl _, ?_⟩
    simp only [Act.put, List.setIfInBounds_toArray, List.set_cons_zero, List.set_cons_succ]
    iterate 2 (refine plan_take (v := ?_) rfl (by kernel_rfl) ?_ ?_; rotate_left; (focus (intro w' hw'; go_simp; try with_reducible rfl)); simp only [Act.put, List.setIfInBounds_toArray, List.set_cons_zero, List.set_cons_succ])
    refine plan_call rfl (by kernel_rfl) (by go_simp; exact ⟨rfl, rfl⟩) ?_
    refine (one_any _ _).mono ?_
    rintro e w' ⟨rfl, rfl⟩
    refine ⟨_, rfl, Ext.refl _, ?_⟩
    simp only [Act.put, List.setIfInBounds_toArray, List.set_cons_zero, List.set_cons_succ]
    iterate 2 (refine plan_take (v := ?_) rfl (by kernel_rfl) ?_ ?_; rotate_left; (focus (intro w' hw'; go_simp; try with_reducible rfl)); simp only [Act.put, List.setIfInBounds_toArray, List.set_cons_zero, List.set_cons_succ])
    refine plan_call rfl (by kernel_rfl) (by go_simp; exact ⟨rfl, rfl⟩) ?_
    refine (one_any _ _).mono ?_
    rintro e w' ⟨rfl, rfl⟩
    refine ⟨_, rfl, Ext.refl _, ?_⟩
    simp only [Act.put, List.setIfInBounds_toArray, List.set_cons_zero, List.set_cons_succ]
    iterate 2 (refine plan_take (v := ?_) rfl (by kernel_rfl) ?_ ?_; rotate_left; (focus (intro w' hw'; go_simp; try with_reducible rfl)); simp only [Act.put, List.setIfInBounds_toArray, List.set_cons_zero, List.set_cons_succ])
    refine plan_call rfl (by kernel_rfl) (by go_simp; exact ⟨rfl, rfl⟩) ?_
    refine (one_any _ _).mono ?_
    rintro e w' ⟨rfl, rfl⟩
    refine ⟨_, rfl, Ext.refl _, ?_⟩
    simp only [Act.put, List.setIfInBounds_toArray, List.set_cons_zero, List.set_cons_succ]
    iterate 2 (refine plan_take (v := ?_) rfl (by kernel_rfl) ?_ ?_; rotate_left; (focus (intro w' hw'; go_simp; try with_reducible rfl)); simp only [Act.put, List.setIfInBounds_toArray, List.set_cons_zero, List.set_cons_succ])
    refine plan_call rfl (by kernel_rfl) (by go_simp; exact ⟨rfl, rfl⟩) ?_
    refine (one_any _ _).mono ?_
    rintro e w' ⟨rfl, rfl⟩
    refine ⟨_, rfl, Ext.refl _, ?_⟩
    simp only [Act.put, List.setIfInBounds_toArray, List.set_cons_zero, List.set_cons_succ]
    iterate 3 (refine plan_take (v := ?_) rfl (by kernel_rfl) ?_ ?_; rotate_left; (focus (intro w' hw'; go_simp; try with_reducible rfl)); simp only [Act.put, List.setIfInBounds_toArray, List.set_cons_zero, List.set_cons_succ])
    refine plan_end ?_
    go_wp2_with fail
    have hp9 := fun W' (h : Ext W3.drew.drew W') => (h.cell (p := ⟨W.heap.size, 9, none⟩) hl).trans hc9
    refine wp_region_plan [(0, false), (1, false), (2, false), (3, false), (4, false), (5, false), (6, false), (7, true), (8, false), (9, false), (10, false), (11, false)] (by kernel_rfl) (by kernel_rfl) (fun _ d _ _ _ h => by cases d <;> exact h) ?_
    iterate 7 (refine plan_take (v := ?_) rfl (by kernel_rfl) ?_ ?_; rotate_left; (focus (intro w' hw'; go_simp; try with_reducible rfl)); simp only [Act.put, List.setIfInBounds_toArray, List.set_cons_zero, List.set_cons_succ])
    refine plan_call rfl (by kernel_rfl) (by go_simp; exact ⟨rfl, rfl⟩) ?_
    refine (pow_any _ _ (by decide) (by decide)).mono ?_
    rintro e w' ⟨rfl, rfl⟩
    rw [show ((2 ^ (44 : Int).toNat : Nat) : Int) = 17592186044416 from rfl]
    refine ⟨_, rfl, Ext.refl _, ?_⟩
    simp only [Act.put, List.setIfInBounds_toArray, List.set_cons_zero, List.set_cons_succ]
    iterate 4 (refine plan_take (v := ?_) rfl (by kernel_rfl) ?_ ?_; rotate_left; (focus (intro w' hw'; go_simp; try with_reducible rfl)); simp only [Act.put, List.setIfInBounds_toArray, List.set_cons_zero, List.set_cons_succ])
    refine plan_end ?_
    go_wp2
    go_ret
    refine ⟨congrArg (fun n => Ending.returned (.int .u64 n)) ?_, by have hB := HB.out; repeat (first | (with_reducible exact hB) | (with_reducible refine Below.drew ?_))⟩
    clear hs0 hs1 hs2 hs3 hs4 hs5 hs6 hs7 hs8 hs9 hp9 hc0 hc1 hc2 hc3 hc4 hc5 hc6 hc7 hc8 hc9
    exact rput_eq v r w x u g a d rsw ppn _ HP.out H2.out
end Go.Proofs.Ytikgdnlnhmikgaa
