/- PermChecks. -/
import Derived.Test.YtbmfklmlgbbcaaaPermH
namespace Go.Proofs.Ytbmfklmlgbbcaaa
open Go.RowKit
namespace Law
set_option maxHeartbeats 4000000 in
theorem PermChecks (v r w x u g a d : Bool) (rsw ppn acc : Int) (user sum mxr : Bool) (W : World) (_ : (Lit.int .i64 rsw).wf = true) (_ : (Lit.int .u64 ppn).wf = true) (_ : (Lit.int .i64 acc).wf = true) :
    Calls Try.prog 3 #[.agg #[.bool v, .bool r, .bool w, .bool x, .bool u, .bool g, .bool a, .bool d, .int .i64 rsw, .int .u64 ppn], .int .i64 acc, .agg #[.bool user, .bool sum, .bool mxr]] W fun e w' => e = .returned (.bool true) ∧ Below W.heap.size W w' := by
  go_enter Try.func3, Try.ntmps3
  go_wp2_with fail
  refine (first_ok _).mono ?_
  rintro e w1 ⟨rfl, hb⟩
  have hp := Blk.below ((Blk.new _ _ _).alloc _) hb (by simp; omega)
  have hm := Blk.below (Blkf.new_at (n := W.heap.size + 1) _ _ _ _ (by simp)) hb (by simp)
  obtain ⟨p0, p1, p2, p3, p4, p5, p6, p7, p8, p9⟩ := pte_cells hp
  obtain ⟨m0, m1, m2⟩ := mode_cells hm
  have lp : W.heap.size < w1.heap.size := hp.lt
  have lm : W.heap.size + 1 < w1.heap.size := hm.lt
  have HB := Lib.hid hb
  clear hb hp hm
  have ps0 := fun W' (h : Ext w1.drew W') => (h.cell (p := ⟨W.heap.size, 0, none⟩) lp).trans p0
  have ps1 := fun W' (h : Ext w1.drew W') => (h.cell (p := ⟨W.heap.size, 1, none⟩) lp).trans p1
  have ps2 := fun W' (h : Ext w1.drew W') => (h.cell (p := ⟨W.heap.size, 2, none⟩) lp).trans p2
  have ps3 := fun W' (h : Ext w1.drew W') => (h.cell (p := ⟨W.heap.size, 3, none⟩) lp).trans p3
  have ps4 := fun W' (h : Ext w1.drew W') => (h.cell (p := ⟨W.heap.size, 4, none⟩) lp).trans p4
  have ps5 := fun W' (h : Ext w1.drew W') => (h.cell (p := ⟨W.heap.size, 5, none⟩) lp).trans p5
  have ps6 := fun W' (h : Ext w1.drew W') => (h.cell (p := ⟨W.heap.size, 6, none⟩) lp).trans p6
  have ps7 := fun W' (h : Ext w1.drew W') => (h.cell (p := ⟨W.heap.size, 7, none⟩) lp).trans p7
  have ps8 := fun W' (h : Ext w1.drew W') => (h.cell (p := ⟨W.heap.size, 8, none⟩) lp).trans p8
  have ps9 := fun W' (h : Ext w1.drew W') => (h.cell (p := ⟨W.heap.size, 9, none⟩) lp).trans p9
  have ms0 := fun W' (h : Ext w1.drew W') => (h.cell (p := ⟨W.heap.size + 1, 0, none⟩) lm).trans m0
  have ms1 := fun W' (h : Ext w1.drew W') => (h.cell (p := ⟨W.heap.size + 1, 1, none⟩) lm).trans m1
  have ms2 := fun W' (h : Ext w1.drew W') => (h.cell (p := ⟨W.heap.size + 1, 2, none⟩) lm).trans m2
  clear p0 p1 p2 p3 p4 p5 p6 p7 p8 p9 m0 m1 m2
  go_wp2_with fail
  refine wp_region_plan [(0, false), (1, false), (2, false), (4, false), (5, false), (6, false), (3, true), (7, true), (8, false), (9, false)] (by kernel_rfl) (by kernel_rfl) (fun _ d _ _ _ h => by cases d <;> exact h) ?_
  iterate 6 (refine plan_take (v := ?_) rfl (by kernel_rfl) ?_ ?_; rotate_left; (focus (intro w' hw'; go_simp; try with_reducible rfl)); simp only [Act.put, List.setIfInBounds_toArray, List.set_cons_zero, List.set_cons_succ])
  clear ps0 ps1 ps2 ps3 ps4 ps5 ps6 ps7 ps8 ps9 ms0 ms1 ms2
  refine plan_call rfl (by kernel_rfl) (by go_simp; exact ⟨rfl, rfl⟩) ?_
  refine (check_any _ _ _ _ _ _ _ _ _ _ _ _ _ _ _).mono ?_
  rintro e w2 ⟨rfl, hb2⟩
  refine ⟨_, rfl, hb2, ?_⟩
  simp only [Act.put, List.setIfInBounds_toArray, List.set_cons_zero, List.set_cons_succ]
  refine plan_call rfl (by kernel_rfl) (by go_simp; exact ⟨rfl, rfl⟩) ?_
  refine (rcheck_any _ _ _ _ _ _ _ _ _ _ _ _ _ _ _).mono ?_
  rintro e w3 ⟨rfl, hb3⟩
  refine ⟨_, rfl, hb3, ?_⟩
  simp only [Act.put, List.setIfInBounds_toArray, List.set_cons_zero, List.set_cons_succ]
  iterate 2 (refine plan_take (v := ?_) rfl (by kernel_rfl) ?_ ?_; rotate_left; (focus (intro w' hw'; go_simp; try with_reducible rfl)); simp only [Act.put, List.setIfInBounds_toArray, List.set_cons_zero, List.set_cons_succ])
  refine plan_end ?_
  go_wp2
  go_ret
  refine ⟨by simp, ?_⟩
  have b1 := (((Below.refl _ W).alloc (Nat.le_refl _) _).alloc (by simp) _).trans (HB.out.mono (by simp; omega))
  have b2 := b1.drew.trans (hb2.mono b1.size)
  exact b2.trans (hb3.mono b2.size)
end Law
end Go.Proofs.Ytbmfklmlgbbcaaa
