/- The walk of the law PteSatps. -/
import Derived.Test.YtikgdnlnhmikgaaPteJ
import Derived.Test.YtikgdnlnhmikgaaOpen
namespace Go.Proofs.Ytikgdnlnhmikgaa
open Go.RowKit

theorem satp_back (x : Nat) (b : Bool) (hx : x < 18446744073709551616) (h : (b = false ∧ x / 1152921504606846976 = 0) ∨ (b = true ∧ x / 1152921504606846976 = 8)) :
    satpV b ((x : Int) / 17592186044416 % 65536) ((x : Int) % 17592186044416) = x := by
  unfold satpV satpB
  rcases h with ⟨rfl, h⟩ | ⟨rfl, h⟩
  · simp only [bt, Bool.false_eq_true, if_false]
    omega
  · simp only [bt, if_true]
    omega

namespace Law
set_option maxHeartbeats 4000000 in
theorem PteSatps (on : Bool) (asid ppn : Int) (a1 : Int) (w : World) (wa : (Lit.int .i64 asid).wf = true) (wp : (Lit.int .u64 ppn).wf = true) (w1 : (Lit.int .u64 a1).wf = true) :
    Calls Try.prog 4 #[.agg #[.bool on, .int .i64 asid, .int .u64 ppn], .int .u64 a1] w fun e w' => e = .returned (.bool true) ∧ Below w.heap.size w w' := by
  obtain ⟨v0, v1⟩ := u64_of_wf w1
  obtain ⟨x, rfl⟩ := Int.eq_ofNat_of_zero_le v0
  have hx : x < 18446744073709551616 := by omega
  have HX := Lib.hid hx
  have HP := Lib.hid (u64_of_wf wp)
  have hcs : (∃ b : Bool, (b = false ∧ x / 1152921504606846976 = 0) ∨ (b = true ∧ x / 1152921504606846976 = 8)) ∨ (x / 1152921504606846976 ≠ 0 ∧ x / 1152921504606846976 ≠ 8) := by
    by_cases h0 : x / 1152921504606846976 = 0
    · exact .inl ⟨false, .inl ⟨rfl, h0⟩⟩
    · by_cases h8 : x / 1152921504606846976 = 8
      · exact .inl ⟨true, .inr ⟨rfl, h8⟩⟩
      · exact .inr ⟨h0, h8⟩
  clear v0 v1 hx wa wp w1
  rcases hcs with ⟨b, hb⟩ | ⟨h0, h8⟩
  · have HBB := Lib.hid hb
    clear hb
    go_enter Try.func4, Try.ntmps4
    go_wp2_with (go_at_call 7; refine (first_ok _).mono ?_; rintro e w1 ⟨rfl, hb1⟩; have HB1 := Lib.hid hb1; clear hb1)
    refine (getsatp_yes x b _ HX.out HBB.out).mono ?_
    rintro e w2 ⟨rfl, hb2⟩
    have HB2 := Lib.hid hb2
    clear hb2
    go_wp2_with fail
    refine (rgetsatp_yes x b _ HX.out HBB.out).mono ?_
    rintro e w3 ⟨rfl, hb3⟩
    have HB3 := Lib.hid hb3
    clear hb3
    go_wp2_with fail
    have hbk := satp_back x b HX.out HBB.out
    have hq : 0 ≤ (x : Int) % 17592186044416 ∧ (x : Int) % 17592186044416 < 18446744073709551616 := by omega
    generalize (x : Int) / 17592186044416 % 65536 = A at *
    generalize (x : Int) % 17592186044416 = Q at *
    have HQ := Lib.hid hq
    have HBK := Lib.hid hbk
    clear hq hbk
    refine wp_world (fun W3 hW3 => ?_)
    have z1 : w.heap.size < w1.heap.size := by have := HB1.out.size; simp at this; omega
    have z2 : w1.heap.size ≤ w2.heap.size := HB2.out.size
    have z3 : w2.heap.size < w3.heap.size := by have := HB3.out.size; simp at this; omega
    have p0 : ∀ j, w3.cell? ⟨w.heap.size, j, none⟩ = #[Value.bool on, .int .i64 asid, .int .u64 ppn][j]? := fun j => by
      rw [HB3.out.cell (by simp; omega), World.cell?_alloc_lt _ _ _ (by simp; omega), HB2.out.cell z1]
      exact cell_new HB1.out
    have p1 : ∀ j, w3.cell? ⟨w2.heap.size, j, none⟩ = #[Value.bool b, .int .i64 A, .int .u64 Q][j]? := fun j => cell_new HB3.out
    have hc0 : W3.cell? ⟨w.heap.size, 0, none⟩ = some (.bool on) := by rw [hW3, World.cell?_alloc_lt _ _ _ (by simp; omega), p0]; rfl
    have hx0 : W3.cell? ⟨w2.heap.size, 0, none⟩ = some (.bool b) := by rw [hW3, World.cell?_alloc_lt _ _ _ (by simp; omega), p1]; rfl
    have hy0 : W3.cell? ⟨w3.heap.size, 0, none⟩ = some (.bool b) := by rw [hW3, World.cell?_alloc_new]; rfl
    have hc1 : W3.cell? ⟨w.heap.size, 1, none⟩ = some (.int .i64 asid) := by rw [hW3, World.cell?_alloc_lt _ _ _ (by simp; omega), p0]; rfl
    have hx1 : W3.cell? ⟨w2.heap.size, 1, none⟩ = some (.int .i64 A) := by rw [hW3, World.cell?_alloc_lt _ _ _ (by simp; omega), p1]; rfl
    have hy1 : W3.cell? ⟨w3.heap.size, 1, none⟩ = some (.int .i64 A) := by rw [hW3, World.cell?_alloc_new]; rfl
    have hc2 : W3.cell? ⟨w.heap.size, 2, none⟩ = some (.int .u64 ppn) := by rw [hW3, World.cell?_alloc_lt _ _ _ (by simp; omega), p0]; rfl
    have hx2 : W3.cell? ⟨w2.heap.size, 2, none⟩ = some (.int .u64 Q) := by rw [hW3, World.cell?_alloc_lt _ _ _ (by simp; omega), p1]; rfl
    have hy2 : W3.cell? ⟨w3.heap.size, 2, none⟩ = some (.int .u64 Q) := by rw [hW3, World.cell?_alloc_new]; rfl
    have hb : Below w.heap.size w W3 := by
      have b1 := (Below.refl w.heap.size w).alloc (Nat.le_refl _) (.cells #[.bool on, .int .i64 asid, .int .u64 ppn] 31)
      have b2 := b1.trans (HB1.out.mono b1.size)
      have b3 := b2.trans (HB2.out.mono b2.size)
      have b4 := b3.alloc b3.size (.cells #[.bool b, .int .i64 A, .int .u64 Q] 31)
      have b5 := b4.trans (HB3.out.mono b4.size)
      rw [hW3]
      exact b5.alloc b5.size _
    have HB := Lib.hid hb
    have lc : w.heap.size < W3.heap.size := cell_lt hc0
    have lx : w2.heap.size < W3.heap.size := cell_lt hx0
    have ly : w3.heap.size < W3.heap.size := cell_lt hy0
    clear hb hW3 p0 p1 z1 z2 z3 HB1 HB2 HB3
    have hc0s := fun W' (h : Ext W3.drew W') => (h.cell (p := ⟨w.heap.size, 0, none⟩) lc).trans hc0
    have hc1s := fun W' (h : Ext W3.drew W') => (h.cell (p := ⟨w.heap.size, 1, none⟩) lc).trans hc1
    have hc2s := fun W' (h : Ext W3.drew W') => (h.cell (p := ⟨w.heap.size, 2, none⟩) lc).trans hc2
    refine wp_region_plan [(0, false), (2, false), (1, true), (3, true), (4, false), (5, false), (6, false), (7, false), (8, false), (9, false), (10, false), (11, false), (12, false), (13, false), (14, false), (15, false), (16, false), (17, false), (18, false), (19, false), (21, false), (20, true), (22, false), (23, false), (24, false), (25, false)] (by kernel_rfl) (by kernel_rfl) (fun _ d _ _ _ h => by cases d <;> exact h) ?_
    iterate 2 (refine plan_take (v := ?_) rfl (by kernel_rfl) ?_ ?_; rotate_left; (focus (intro w' hw'; go_simp; try with_reducible rfl)); simp only [Act.put, List.setIfInBounds_toArray, List.set_cons_zero, List.set_cons_succ])
    refine plan_call rfl (by kernel_rfl) (by go_simp; exact ⟨rfl, rfl⟩) ?_
    refine (putsatp_any _ _ _ _ HP.out).mono ?_
    rintro e wp ⟨rfl, hp⟩
    have HPP := Lib.hid hp
    refine ⟨_, rfl, hp, ?_⟩
    simp only [Act.put, List.setIfInBounds_toArray, List.set_cons_zero, List.set_cons_succ]
    clear hp hc0s hc1s hc2s
    refine plan_call rfl (by kernel_rfl) (by go_simp; exact ⟨rfl, rfl⟩) ?_
    refine (rputsatp_any _ _ _ _ HP.out).mono ?_
    rintro e wq ⟨rfl, hq⟩
    have HPQ := Lib.hid hq
    refine ⟨_, rfl, hq, ?_⟩
    simp only [Act.put, List.setIfInBounds_toArray, List.set_cons_zero, List.set_cons_succ]
    clear hq
    have hg := HPP.out.trans (HPQ.out.mono HPP.out.size)
    have kx0 := (hg.cell (p := ⟨w2.heap.size, 0, none⟩) lx).trans hx0
    have kx1 := (hg.cell (p := ⟨w2.heap.size, 1, none⟩) lx).trans hx1
    have kx2 := (hg.cell (p := ⟨w2.heap.size, 2, none⟩) lx).trans hx2
    have ky0 := (hg.cell (p := ⟨w3.heap.size, 0, none⟩) ly).trans hy0
    have ky1 := (hg.cell (p := ⟨w3.heap.size, 1, none⟩) ly).trans hy1
    have ky2 := (hg.cell (p := ⟨w3.heap.size, 2, none⟩) ly).trans hy2
    have lx2 : w2.heap.size < wq.heap.size := cell_lt kx0
    have ly2 : w3.heap.size < wq.heap.size := cell_lt ky0
    have hbq := HB.out.drew.trans (hg.mono HB.out.size)
    have HBQ := Lib.hid hbq
    clear hbq hg HB HPP HPQ hc0 hc1 hc2 hx0 hx1 hx2 hy0 hy1 hy2 lc lx ly
    have hx0s := fun W' (h : Ext wq W') => (h.cell (p := ⟨w2.heap.size, 0, none⟩) lx2).trans kx0
    have hx1s := fun W' (h : Ext wq W') => (h.cell (p := ⟨w2.heap.size, 1, none⟩) lx2).trans kx1
    have hx2s := fun W' (h : Ext wq W') => (h.cell (p := ⟨w2.heap.size, 2, none⟩) lx2).trans kx2
    have hy0s := fun W' (h : Ext wq W') => (h.cell (p := ⟨w3.heap.size, 0, none⟩) ly2).trans ky0
    have hy1s := fun W' (h : Ext wq W') => (h.cell (p := ⟨w3.heap.size, 1, none⟩) ly2).trans ky1
    have hy2s := fun W' (h : Ext wq W') => (h.cell (p := ⟨w3.heap.size, 2, none⟩) ly2).trans ky2
    iterate 17 (refine plan_take (v := ?_) rfl (by kernel_rfl) ?_ ?_; rotate_left; (focus (intro w' hw'; go_simp; try with_reducible rfl)); simp only [Act.put, List.setIfInBounds_toArray, List.set_cons_zero, List.set_cons_succ])
    refine plan_call rfl (by kernel_rfl) (by go_simp; exact ⟨rfl, rfl⟩) ?_
    refine (putsatp_any _ _ _ _ HQ.out).mono ?_
    rintro e wr ⟨rfl, hr⟩
    rw [HBK.out]
    have HR := Lib.hid hr
    refine ⟨_, rfl, hr, ?_⟩
    simp only [Act.put, List.setIfInBounds_toArray, List.set_cons_zero, List.set_cons_succ]
    clear hr
    iterate 4 (refine plan_take (v := ?_) rfl (by kernel_rfl) ?_ ?_; rotate_left; (focus (intro w' hw'; go_simp; try with_reducible rfl)); simp only [Act.put, List.setIfInBounds_toArray, List.set_cons_zero, List.set_cons_succ])
    refine plan_end ?_
    clear hx0s hx1s hx2s hy0s hy1s hy2s kx0 kx1 kx2 ky0 ky1 ky2
    go_wp2
    go_ret
    exact ⟨rfl, HBQ.out.trans (HR.out.mono HBQ.out.size)⟩
  · go_enter Try.func4, Try.ntmps4
    have H0 := Lib.hid h0
    have H8 := Lib.hid h8
    clear h0 h8
    go_wp2_with (go_at_call 7; refine (first_ok _).mono ?_; rintro e w1 ⟨rfl, hb1⟩; have HB1 := Lib.hid hb1; clear hb1)
    refine (getsatp_no x _ H0.out H8.out).mono ?_
    rintro e w2 ⟨rfl, hb2⟩
    have HB2 := Lib.hid hb2
    clear hb2
    go_wp2_with fail
    refine (rgetsatp_no x _ HX.out H0.out H8.out).mono ?_
    rintro e w3 ⟨rfl, hb3⟩
    have HB3 := Lib.hid hb3
    clear hb3
    go_wp2_with fail
    refine wp_world (fun W3 hW3 => ?_)
    have z1 : w.heap.size < w1.heap.size := by have := HB1.out.size; simp at this; omega
    have z2 : w1.heap.size ≤ w2.heap.size := HB2.out.size
    have z3 : w2.heap.size < w3.heap.size := by have := HB3.out.size; simp at this; omega
    have p0 : ∀ j, w3.cell? ⟨w.heap.size, j, none⟩ = #[Value.bool on, .int .i64 asid, .int .u64 ppn][j]? := fun j => by
      rw [HB3.out.cell (by simp; omega), World.cell?_alloc_lt _ _ _ (by simp; omega), HB2.out.cell z1]
      exact cell_new HB1.out
    have p1 : ∀ j, w3.cell? ⟨w2.heap.size, j, none⟩ = #[Value.bool false, .int .i64 0, .int .u64 0][j]? := fun j => cell_new HB3.out
    have hc0 : W3.cell? ⟨w.heap.size, 0, none⟩ = some (.bool on) := by rw [hW3, World.cell?_alloc_lt _ _ _ (by simp; omega), p0]; rfl
    have hx0 : W3.cell? ⟨w2.heap.size, 0, none⟩ = some (.bool false) := by rw [hW3, World.cell?_alloc_lt _ _ _ (by simp; omega), p1]; rfl
    have hy0 : W3.cell? ⟨w3.heap.size, 0, none⟩ = some (.bool false) := by rw [hW3, World.cell?_alloc_new]; rfl
    have hc1 : W3.cell? ⟨w.heap.size, 1, none⟩ = some (.int .i64 asid) := by rw [hW3, World.cell?_alloc_lt _ _ _ (by simp; omega), p0]; rfl
    have hx1 : W3.cell? ⟨w2.heap.size, 1, none⟩ = some (.int .i64 0) := by rw [hW3, World.cell?_alloc_lt _ _ _ (by simp; omega), p1]; rfl
    have hy1 : W3.cell? ⟨w3.heap.size, 1, none⟩ = some (.int .i64 0) := by rw [hW3, World.cell?_alloc_new]; rfl
    have hc2 : W3.cell? ⟨w.heap.size, 2, none⟩ = some (.int .u64 ppn) := by rw [hW3, World.cell?_alloc_lt _ _ _ (by simp; omega), p0]; rfl
    have hx2 : W3.cell? ⟨w2.heap.size, 2, none⟩ = some (.int .u64 0) := by rw [hW3, World.cell?_alloc_lt _ _ _ (by simp; omega), p1]; rfl
    have hy2 : W3.cell? ⟨w3.heap.size, 2, none⟩ = some (.int .u64 0) := by rw [hW3, World.cell?_alloc_new]; rfl
    have hb : Below w.heap.size w W3 := by
      have b1 := (Below.refl w.heap.size w).alloc (Nat.le_refl _) (.cells #[.bool on, .int .i64 asid, .int .u64 ppn] 31)
      have b2 := b1.trans (HB1.out.mono b1.size)
      have b3 := b2.trans (HB2.out.mono b2.size)
      have b4 := b3.alloc b3.size (.cells #[.bool false, .int .i64 0, .int .u64 0] 31)
      have b5 := b4.trans (HB3.out.mono b4.size)
      rw [hW3]
      exact b5.alloc b5.size _
    have HB := Lib.hid hb
    have lc : w.heap.size < W3.heap.size := cell_lt hc0
    have lx : w2.heap.size < W3.heap.size := cell_lt hx0
    have ly : w3.heap.size < W3.heap.size := cell_lt hy0
    clear hb hW3 p0 p1 z1 z2 z3 HB1 HB2 HB3
    have hc0s := fun W' (h : Ext W3.drew W') => (h.cell (p := ⟨w.heap.size, 0, none⟩) lc).trans hc0
    have hc1s := fun W' (h : Ext W3.drew W') => (h.cell (p := ⟨w.heap.size, 1, none⟩) lc).trans hc1
    have hc2s := fun W' (h : Ext W3.drew W') => (h.cell (p := ⟨w.heap.size, 2, none⟩) lc).trans hc2
    refine wp_region_plan [(0, false), (2, false), (1, true), (3, true), (4, false), (5, false), (6, false), (7, false), (8, false), (9, false), (10, false), (11, false), (12, false), (13, false), (14, false), (15, false), (16, false), (17, false), (18, false), (19, false), (21, false), (20, true), (22, false), (23, false), (24, false), (25, false)] (by kernel_rfl) (by kernel_rfl) (fun _ d _ _ _ h => by cases d <;> exact h) ?_
    iterate 2 (refine plan_take (v := ?_) rfl (by kernel_rfl) ?_ ?_; rotate_left; (focus (intro w' hw'; go_simp; try with_reducible rfl)); simp only [Act.put, List.setIfInBounds_toArray, List.set_cons_zero, List.set_cons_succ])
    refine plan_call rfl (by kernel_rfl) (by go_simp; exact ⟨rfl, rfl⟩) ?_
    refine (putsatp_any _ _ _ _ HP.out).mono ?_
    rintro e wp ⟨rfl, hp⟩
    have HPP := Lib.hid hp
    refine ⟨_, rfl, hp, ?_⟩
    simp only [Act.put, List.setIfInBounds_toArray, List.set_cons_zero, List.set_cons_succ]
    clear hp hc0s hc1s hc2s
    refine plan_call rfl (by kernel_rfl) (by go_simp; exact ⟨rfl, rfl⟩) ?_
    refine (rputsatp_any _ _ _ _ HP.out).mono ?_
    rintro e wq ⟨rfl, hq⟩
    have HPQ := Lib.hid hq
    refine ⟨_, rfl, hq, ?_⟩
    simp only [Act.put, List.setIfInBounds_toArray, List.set_cons_zero, List.set_cons_succ]
    clear hq
    have hg := HPP.out.trans (HPQ.out.mono HPP.out.size)
    have kx0 := (hg.cell (p := ⟨w2.heap.size, 0, none⟩) lx).trans hx0
    have kx1 := (hg.cell (p := ⟨w2.heap.size, 1, none⟩) lx).trans hx1
    have kx2 := (hg.cell (p := ⟨w2.heap.size, 2, none⟩) lx).trans hx2
    have ky0 := (hg.cell (p := ⟨w3.heap.size, 0, none⟩) ly).trans hy0
    have ky1 := (hg.cell (p := ⟨w3.heap.size, 1, none⟩) ly).trans hy1
    have ky2 := (hg.cell (p := ⟨w3.heap.size, 2, none⟩) ly).trans hy2
    have lx2 : w2.heap.size < wq.heap.size := cell_lt kx0
    have ly2 : w3.heap.size < wq.heap.size := cell_lt ky0
    have hbq := HB.out.drew.trans (hg.mono HB.out.size)
    have HBQ := Lib.hid hbq
    clear hbq hg HB HPP HPQ hc0 hc1 hc2 hx0 hx1 hx2 hy0 hy1 hy2 lc lx ly
    have hx0s := fun W' (h : Ext wq W') => (h.cell (p := ⟨w2.heap.size, 0, none⟩) lx2).trans kx0
    have hx1s := fun W' (h : Ext wq W') => (h.cell (p := ⟨w2.heap.size, 1, none⟩) lx2).trans kx1
    have hx2s := fun W' (h : Ext wq W') => (h.cell (p := ⟨w2.heap.size, 2, none⟩) lx2).trans kx2
    have hy0s := fun W' (h : Ext wq W') => (h.cell (p := ⟨w3.heap.size, 0, none⟩) ly2).trans ky0
    have hy1s := fun W' (h : Ext wq W') => (h.cell (p := ⟨w3.heap.size, 1, none⟩) ly2).trans ky1
    have hy2s := fun W' (h : Ext wq W') => (h.cell (p := ⟨w3.heap.size, 2, none⟩) ly2).trans ky2
    iterate 15 (refine plan_take (v := ?_) rfl (by kernel_rfl) ?_ ?_; rotate_left; (focus (intro w' hw'; go_simp; try with_reducible rfl)); simp only [Act.put, List.setIfInBounds_toArray, List.set_cons_zero, List.set_cons_succ])
    iterate 2 (refine plan_skip rfl (by kernel_rfl) ?_; simp only [Act.put, List.setIfInBounds_toArray, List.set_cons_zero, List.set_cons_succ])
    refine plan_pass later_ext rfl (by kernel_rfl) ?_
    simp only [Act.put, List.setIfInBounds_toArray, List.set_cons_zero, List.set_cons_succ]
    iterate 1 (refine plan_skip rfl (by kernel_rfl) ?_; simp only [Act.put, List.setIfInBounds_toArray, List.set_cons_zero, List.set_cons_succ])
    iterate 3 (refine plan_take (v := ?_) rfl (by kernel_rfl) ?_ ?_; rotate_left; (focus (intro w' hw'; go_simp; try with_reducible rfl)); simp only [Act.put, List.setIfInBounds_toArray, List.set_cons_zero, List.set_cons_succ])
    refine plan_end ?_
    clear hx0s hx1s hx2s hy0s hy1s hy2s kx0 kx1 kx2 ky0 ky1 ky2
    go_wp2
    go_ret
    exact ⟨rfl, HBQ.out⟩
end Law
end Go.Proofs.Ytikgdnlnhmikgaa
