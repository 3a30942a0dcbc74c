/- matches, goes; the reference's Page. -/
import Derived.Test.YtnjoobggcejgkaaTlbA
namespace Go.Proofs.Ytnjoobggcejgkaa
open Go.RowKit

set_option maxHeartbeats 1000000 in
theorem matches_any (e : En) (va : Nat) (asid : Int) (W : World) (hv : va < 18446744073709551616) (hl : e.full = true → levOK e.lf.lev = true) :
    Calls Try.prog 20 #[e.val, .int .u64 va, .int .i64 asid] W fun r w' => r = .returned (.bool (matchB e va asid)) ∧ Below W.heap.size W w' := by
  have H : Hid (matchB e va asid = (hasB e va && (e.asid == asid || e.lf.g))) := Lib.hid rfl
  have hB : Below W.heap.size W (W.alloc (.cells e.vs.toArray 59)) := (Below.refl _ W).alloc (Nat.le_refl _) _
  have hX : Blk (W.alloc (.cells e.vs.toArray 59)) W.heap.size 59 e.vs.toArray := Blkf.new_at _ _ _ _ rfl
  unfold En.val
  unfold En.vs at hX hB
  have HB := Lib.hid hB
  have HX := Lib.hid hX
  clear hX hB
  go_enter Try.func20, Try.ntmps20
  go_wp2_with fail
  generalize W.alloc (.cells #[.bool e.full, .int .i64 e.asid, .int .u64 e.page, .bool e.lf.v, .bool e.lf.r, .bool e.lf.w, .bool e.lf.x, .bool e.lf.u, .bool e.lf.g, .bool e.lf.a, .bool e.lf.d, .int .i64 e.lf.rsw, .int .u64 e.lf.ppn, .int .i64 e.lf.lev, .int .u64 e.lf.pos] 59) = w0 at *
  have x0 := HX.out.cell 0
  have x1 := HX.out.cell 1
  have x2 := HX.out.cell 2
  have x3 := HX.out.cell 3
  have x4 := HX.out.cell 4
  have x5 := HX.out.cell 5
  have x6 := HX.out.cell 6
  have x7 := HX.out.cell 7
  have x8 := HX.out.cell 8
  have x9 := HX.out.cell 9
  have x10 := HX.out.cell 10
  have x11 := HX.out.cell 11
  have x12 := HX.out.cell 12
  have x13 := HX.out.cell 13
  have x14 := HX.out.cell 14
  have xl := HX.out.lt
  simp at x0 x1 x2 x3 x4 x5 x6 x7 x8 x9 x10 x11 x12 x13 x14
  refine (has_any e va _ hv hl).mono ?_
  rintro r w1 ⟨rfl, hb⟩
  have HX1 := Lib.hid (HX.out.below hb HX.out.lt)
  have HB1 := Lib.hid (HB.out.trans (hb.mono HB.out.size))
  clear hb x0 x1 x2 x3 x4 x5 x6 x7 x8 x9 x10 x11 x12 x13 x14 xl
  have x1 := HX1.out.cell 1
  have x8 := HX1.out.cell 8
  have xl := HX1.out.lt
  simp at x1 x8
  cases hh : hasB e va
  · rw [hh] at H
    go_wp2
    go_ret
    exact ⟨by rw [H.out]; rfl, HB1.out⟩
  · rw [hh] at H
    cases ha : (e.asid == asid)
    · rw [ha] at H
      go_wp2
      go_ret
      exact ⟨by rw [H.out]; rfl, HB1.out⟩
    · rw [ha] at H
      go_wp2
      go_ret
      exact ⟨by rw [H.out]; rfl, HB1.out⟩
/-- A slice of at most one. -/
def OneU (w : World) : Option Nat → Value → Prop
  | none, v => v = .slice none 0 0
  | some x, v => ∃ g, v = .slice (some ⟨g, 0, none⟩) 1 1 ∧ w.cell? ⟨g, 0, none⟩ = some (.int .u64 x)
def OneI (w : World) : Option Int → Value → Prop
  | none, v => v = .slice none 0 0
  | some x, v => ∃ g, v = .slice (some ⟨g, 0, none⟩) 1 1 ∧ w.cell? ⟨g, 0, none⟩ = some (.int .i64 x)
theorem OneU.keep {w w' : World} {o : Option Nat} {v : Value} (h : OneU w o v) (hk : ∀ g, ∀ x, w.cell? ⟨g, 0, none⟩ = some (.int .u64 x) → w'.cell? ⟨g, 0, none⟩ = some (.int .u64 x)) : OneU w' o v := by
  cases o with
  | none => exact h
  | some x =>
    obtain ⟨g, e, hc⟩ := h
    exact ⟨g, e, hk g x hc⟩
theorem OneI.keep {w w' : World} {o : Option Int} {v : Value} (h : OneI w o v) (hk : ∀ g, ∀ x, w.cell? ⟨g, 0, none⟩ = some (.int .i64 x) → w'.cell? ⟨g, 0, none⟩ = some (.int .i64 x)) : OneI w' o v := by
  cases o with
  | none => exact h
  | some x =>
    obtain ⟨g, e, hc⟩ := h
    exact ⟨g, e, hk g x hc⟩
theorem OneU.below {w w' : World} {o : Option Nat} {v : Value} (h : OneU w o v) (hb : Below w.heap.size w w') : OneU w' o v := h.keep fun g x hc => by rw [hb.cell (cell_lt hc)]; exact hc
theorem OneI.below {w w' : World} {o : Option Int} {v : Value} (h : OneI w o v) (hb : Below w.heap.size w w') : OneI w' o v := h.keep fun g x hc => by rw [hb.cell (cell_lt hc)]; exact hc
def vaOK (e : En) : Option Nat → Bool
  | none => true
  | some va => hasB e va
def asOK (e : En) : Option Int → Bool
  | none => true
  | some a => e.asid == a && !e.lf.g
def goesB (e : En) (vo : Option Nat) (ao : Option Int) : Bool := vaOK e vo && (e.full && asOK e ao)
set_option maxHeartbeats 2000000 in
theorem goes_any (e : En) (vo : Option Nat) (ao : Option Int) (V A : Value) (W : World) (hv : ∀ va, vo = some va → va < 18446744073709551616) (hl : e.full = true → levOK e.lf.lev = true) (hV : OneU W vo V) (hA : OneI W ao A) :
    Calls Try.prog 22 #[e.val, V, A] W fun r w' => r = .returned (.bool (goesB e vo ao)) ∧ Below W.heap.size W w' := by
  have H : Hid (goesB e vo ao = (vaOK e vo && (e.full && asOK e ao))) := Lib.hid rfl
  have HVV := Lib.hid hV
  have HAA := Lib.hid hA
  clear hV hA
  have hB : Below W.heap.size W (W.alloc (.cells e.vs.toArray 59)) := (Below.refl _ W).alloc (Nat.le_refl _) _
  have hX : Blk (W.alloc (.cells e.vs.toArray 59)) W.heap.size 59 e.vs.toArray := Blkf.new_at _ _ _ _ rfl
  unfold En.val
  unfold En.vs at hX hB
  have HB := Lib.hid hB
  have HX := Lib.hid hX
  clear hX hB
  rcases vo with _ | va
  · obtain rfl := HVV.out
    rw [show vaOK e none = true from rfl] at H
    rcases ao with _ | ai
    · obtain rfl := HAA.out
      go_enter Try.func22, Try.ntmps22
      go_wp2_with fail
      generalize W.alloc (.cells #[.bool e.full, .int .i64 e.asid, .int .u64 e.page, .bool e.lf.v, .bool e.lf.r, .bool e.lf.w, .bool e.lf.x, .bool e.lf.u, .bool e.lf.g, .bool e.lf.a, .bool e.lf.d, .int .i64 e.lf.rsw, .int .u64 e.lf.ppn, .int .i64 e.lf.lev, .int .u64 e.lf.pos] 59) = w0 at *
      refine wp_region_plan [(0, false), (1, false), (2, false), (3, false), (4, false), (5, false), (6, false), (7, false), (8, true), (9, false), (10, false)] (by kernel_rfl) (by kernel_rfl) (fun _ d _ _ _ h => by cases d <;> exact h) ?_
      iterate 4 (refine plan_take (v := ?_) rfl (by kernel_rfl) ?_ ?_; rotate_left; (focus (intro w' hw'; try go_simp; try with_reducible rfl)); simp only [Act.put, List.setIfInBounds_toArray, List.set_cons_zero, List.set_cons_succ])
      iterate 4 (refine plan_skip rfl (by kernel_rfl) ?_; simp only [Act.put, List.setIfInBounds_toArray, List.set_cons_zero, List.set_cons_succ])
      refine plan_pass later_ext rfl (by kernel_rfl) ?_
      simp only [Act.put, List.setIfInBounds_toArray, List.set_cons_zero, List.set_cons_succ]
      iterate 1 (refine plan_skip rfl (by kernel_rfl) ?_; simp only [Act.put, List.setIfInBounds_toArray, List.set_cons_zero, List.set_cons_succ])
      iterate 1 (refine plan_take (v := ?_) rfl (by kernel_rfl) ?_ ?_; rotate_left; (focus (intro w' hw'; try go_simp; try with_reducible rfl)); simp only [Act.put, List.setIfInBounds_toArray, List.set_cons_zero, List.set_cons_succ])
      refine plan_end ?_
      have HX1 := Lib.hid HX.out.drew
      have HB1 := Lib.hid HB.out.drew
      generalize w0.drew = w1 at *
      go_wp2_with fail
      have t0 := fun W' (h : Ext w1.drew W') => (h.cell (p := ⟨W.heap.size, 0, none⟩) HX1.out.lt).trans (HX1.out.cell 0)
      have t1 := fun W' (h : Ext w1.drew W') => (h.cell (p := ⟨W.heap.size, 1, none⟩) HX1.out.lt).trans (HX1.out.cell 1)
      have t8 := fun W' (h : Ext w1.drew W') => (h.cell (p := ⟨W.heap.size, 8, none⟩) HX1.out.lt).trans (HX1.out.cell 8)
      simp at t0 t1 t8
      cases hf : e.full
      · rw [hf] at t0 H
        refine wp_region_plan [(0, false), (1, false), (2, false), (3, false), (4, false), (5, false), (6, false), (7, false), (8, false), (9, false), (10, false), (11, false), (12, false), (13, false), (14, false), (15, false), (16, false), (17, false), (18, false), (19, false), (20, false), (21, false), (22, false)] (by kernel_rfl) (by kernel_rfl) (fun _ d _ _ _ h => by cases d <;> exact h) ?_
        iterate 3 (refine plan_take (v := ?_) rfl (by kernel_rfl) ?_ ?_; rotate_left; (focus (intro w' hw'; try go_simp; try with_reducible rfl)); simp only [Act.put, List.setIfInBounds_toArray, List.set_cons_zero, List.set_cons_succ])
        iterate 18 (refine plan_skip rfl (by kernel_rfl) ?_; simp only [Act.put, List.setIfInBounds_toArray, List.set_cons_zero, List.set_cons_succ])
        iterate 2 (refine plan_take (v := ?_) rfl (by kernel_rfl) ?_ ?_; rotate_left; (focus (intro w' hw'; try go_simp; try with_reducible rfl)); simp only [Act.put, List.setIfInBounds_toArray, List.set_cons_zero, List.set_cons_succ])
        refine plan_end ?_
        clear t0 t1 t8
        go_wp2
        go_ret
        exact ⟨by rw [H.out]; simp [asOK, *], HB1.out.drew⟩
      · rw [hf] at t0 H
        refine wp_region_plan [(0, false), (1, false), (2, false), (3, false), (4, false), (5, false), (6, false), (7, false), (8, false), (9, false), (10, false), (11, false), (12, false), (13, false), (14, false), (15, false), (16, false), (17, false), (18, false), (19, false), (20, false), (21, false), (22, false)] (by kernel_rfl) (by kernel_rfl) (fun _ d _ _ _ h => by cases d <;> exact h) ?_
        iterate 7 (refine plan_take (v := ?_) rfl (by kernel_rfl) ?_ ?_; rotate_left; (focus (intro w' hw'; try go_simp; try with_reducible rfl)); simp only [Act.put, List.setIfInBounds_toArray, List.set_cons_zero, List.set_cons_succ])
        iterate 13 (refine plan_skip rfl (by kernel_rfl) ?_; simp only [Act.put, List.setIfInBounds_toArray, List.set_cons_zero, List.set_cons_succ])
        iterate 3 (refine plan_take (v := ?_) rfl (by kernel_rfl) ?_ ?_; rotate_left; (focus (intro w' hw'; try go_simp; try with_reducible rfl)); simp only [Act.put, List.setIfInBounds_toArray, List.set_cons_zero, List.set_cons_succ])
        refine plan_end ?_
        clear t0 t1 t8
        go_wp2
        go_ret
        exact ⟨by rw [H.out]; simp [asOK, *], HB1.out.drew⟩
    · obtain ⟨ga, rfl, hca⟩ := HAA.out
      clear HAA
      go_enter Try.func22, Try.ntmps22
      go_wp2_with fail
      generalize W.alloc (.cells #[.bool e.full, .int .i64 e.asid, .int .u64 e.page, .bool e.lf.v, .bool e.lf.r, .bool e.lf.w, .bool e.lf.x, .bool e.lf.u, .bool e.lf.g, .bool e.lf.a, .bool e.lf.d, .int .i64 e.lf.rsw, .int .u64 e.lf.ppn, .int .i64 e.lf.lev, .int .u64 e.lf.pos] 59) = w0 at *
      refine wp_region_plan [(0, false), (1, false), (2, false), (3, false), (4, false), (5, false), (6, false), (7, false), (8, true), (9, false), (10, false)] (by kernel_rfl) (by kernel_rfl) (fun _ d _ _ _ h => by cases d <;> exact h) ?_
      iterate 4 (refine plan_take (v := ?_) rfl (by kernel_rfl) ?_ ?_; rotate_left; (focus (intro w' hw'; try go_simp; try with_reducible rfl)); simp only [Act.put, List.setIfInBounds_toArray, List.set_cons_zero, List.set_cons_succ])
      iterate 4 (refine plan_skip rfl (by kernel_rfl) ?_; simp only [Act.put, List.setIfInBounds_toArray, List.set_cons_zero, List.set_cons_succ])
      refine plan_pass later_ext rfl (by kernel_rfl) ?_
      simp only [Act.put, List.setIfInBounds_toArray, List.set_cons_zero, List.set_cons_succ]
      iterate 1 (refine plan_skip rfl (by kernel_rfl) ?_; simp only [Act.put, List.setIfInBounds_toArray, List.set_cons_zero, List.set_cons_succ])
      iterate 1 (refine plan_take (v := ?_) rfl (by kernel_rfl) ?_ ?_; rotate_left; (focus (intro w' hw'; try go_simp; try with_reducible rfl)); simp only [Act.put, List.setIfInBounds_toArray, List.set_cons_zero, List.set_cons_succ])
      refine plan_end ?_
      have HX1 := Lib.hid HX.out.drew
      have HB1 := Lib.hid HB.out.drew
      have hca1 : w0.drew.cell? ⟨ga, 0, none⟩ = some (.int .i64 ai) := by rw [HB1.out.cell (cell_lt hca)]; exact hca
      generalize w0.drew = w1 at *
      go_wp2_with fail
      have t0 := fun W' (h : Ext w1.drew W') => (h.cell (p := ⟨W.heap.size, 0, none⟩) HX1.out.lt).trans (HX1.out.cell 0)
      have t1 := fun W' (h : Ext w1.drew W') => (h.cell (p := ⟨W.heap.size, 1, none⟩) HX1.out.lt).trans (HX1.out.cell 1)
      have t8 := fun W' (h : Ext w1.drew W') => (h.cell (p := ⟨W.heap.size, 8, none⟩) HX1.out.lt).trans (HX1.out.cell 8)
      simp at t0 t1 t8
      cases hf : e.full
      · rw [hf] at t0 H
        refine wp_region_plan [(0, false), (1, false), (2, false), (3, false), (4, false), (5, false), (6, false), (7, false), (8, false), (9, false), (10, false), (11, false), (12, false), (13, false), (14, false), (15, false), (16, false), (17, false), (18, false), (19, false), (20, false), (21, false), (22, false)] (by kernel_rfl) (by kernel_rfl) (fun _ d _ _ _ h => by cases d <;> exact h) ?_
        iterate 3 (refine plan_take (v := ?_) rfl (by kernel_rfl) ?_ ?_; rotate_left; (focus (intro w' hw'; try go_simp; try with_reducible rfl)); simp only [Act.put, List.setIfInBounds_toArray, List.set_cons_zero, List.set_cons_succ])
        iterate 18 (refine plan_skip rfl (by kernel_rfl) ?_; simp only [Act.put, List.setIfInBounds_toArray, List.set_cons_zero, List.set_cons_succ])
        iterate 2 (refine plan_take (v := ?_) rfl (by kernel_rfl) ?_ ?_; rotate_left; (focus (intro w' hw'; try go_simp; try with_reducible rfl)); simp only [Act.put, List.setIfInBounds_toArray, List.set_cons_zero, List.set_cons_succ])
        refine plan_end ?_
        clear t0 t1 t8
        go_wp2
        go_ret
        exact ⟨by rw [H.out]; simp [asOK, *], HB1.out.drew⟩
      · rw [hf] at t0 H
        refine wp_region_plan [(0, false), (1, false), (2, false), (3, false), (4, false), (5, false), (6, false), (7, false), (8, false), (9, false), (10, false), (11, false), (12, false), (13, false), (14, false), (15, false), (16, false), (17, false), (18, false), (19, false), (20, false), (21, false), (22, false)] (by kernel_rfl) (by kernel_rfl) (fun _ d _ _ _ h => by cases d <;> exact h) ?_
        have ta := fun W' (h : Ext w1.drew W') => (h.cell (p := ⟨ga, 0, none⟩) (cell_lt hca1)).trans hca1
        iterate 14 (refine plan_take (v := ?_) rfl (by kernel_rfl) ?_ ?_; rotate_left; (focus (intro w' hw'; try go_simp; try with_reducible rfl)); simp only [Act.put, List.setIfInBounds_toArray, List.set_cons_zero, List.set_cons_succ])
        have HAO : Hid (asOK e (some ai) = (e.asid == ai && !e.lf.g)) := Lib.hid rfl
        cases he : (e.asid == ai)
        · rw [he] at HAO
          iterate 5 (refine plan_skip rfl (by kernel_rfl) ?_; simp only [Act.put, List.setIfInBounds_toArray, List.set_cons_zero, List.set_cons_succ])
          iterate 4 (refine plan_take (v := ?_) rfl (by kernel_rfl) ?_ ?_; rotate_left; (focus (intro w' hw'; try go_simp; try with_reducible rfl)); simp only [Act.put, List.setIfInBounds_toArray, List.set_cons_zero, List.set_cons_succ])
          refine plan_end ?_
          clear t0 t1 t8 ta
          go_wp2
          go_ret
          exact ⟨by rw [H.out, HAO.out]; simp [asOK, *], HB1.out.drew⟩
        · rw [he] at HAO
          iterate 9 (refine plan_take (v := ?_) rfl (by kernel_rfl) ?_ ?_; rotate_left; (focus (intro w' hw'; try go_simp; try with_reducible rfl)); simp only [Act.put, List.setIfInBounds_toArray, List.set_cons_zero, List.set_cons_succ])
          refine plan_end ?_
          clear t0 t1 t8 ta
          go_wp2
          go_ret
          exact ⟨by rw [H.out, HAO.out]; simp [asOK, *], HB1.out.drew⟩
  · obtain ⟨gv, rfl, hcv⟩ := HVV.out
    clear HVV
    have HV : Hid (vaOK e (some va) = hasB e va) := Lib.hid rfl
    rcases ao with _ | ai
    · obtain rfl := HAA.out
      go_enter Try.func22, Try.ntmps22
      go_wp2_with fail
      generalize W.alloc (.cells #[.bool e.full, .int .i64 e.asid, .int .u64 e.page, .bool e.lf.v, .bool e.lf.r, .bool e.lf.w, .bool e.lf.x, .bool e.lf.u, .bool e.lf.g, .bool e.lf.a, .bool e.lf.d, .int .i64 e.lf.rsw, .int .u64 e.lf.ppn, .int .i64 e.lf.lev, .int .u64 e.lf.pos] 59) = w0 at *
      have hv1 : w0.cell? ⟨gv, 0, none⟩ = some (.int .u64 va) := by rw [HB.out.cell (cell_lt hcv)]; exact hcv
      have tv := fun W' (h : Ext w0.drew W') => (h.cell (p := ⟨gv, 0, none⟩) (cell_lt hv1)).trans hv1
      have s0 := fun W' (h : Ext w0.drew W') => (h.cell (p := ⟨W.heap.size, 0, none⟩) HX.out.lt).trans (HX.out.cell 0)
      have s1 := fun W' (h : Ext w0.drew W') => (h.cell (p := ⟨W.heap.size, 1, none⟩) HX.out.lt).trans (HX.out.cell 1)
      have s2 := fun W' (h : Ext w0.drew W') => (h.cell (p := ⟨W.heap.size, 2, none⟩) HX.out.lt).trans (HX.out.cell 2)
      have s3 := fun W' (h : Ext w0.drew W') => (h.cell (p := ⟨W.heap.size, 3, none⟩) HX.out.lt).trans (HX.out.cell 3)
      have s4 := fun W' (h : Ext w0.drew W') => (h.cell (p := ⟨W.heap.size, 4, none⟩) HX.out.lt).trans (HX.out.cell 4)
      have s5 := fun W' (h : Ext w0.drew W') => (h.cell (p := ⟨W.heap.size, 5, none⟩) HX.out.lt).trans (HX.out.cell 5)
      have s6 := fun W' (h : Ext w0.drew W') => (h.cell (p := ⟨W.heap.size, 6, none⟩) HX.out.lt).trans (HX.out.cell 6)
      have s7 := fun W' (h : Ext w0.drew W') => (h.cell (p := ⟨W.heap.size, 7, none⟩) HX.out.lt).trans (HX.out.cell 7)
      have s8 := fun W' (h : Ext w0.drew W') => (h.cell (p := ⟨W.heap.size, 8, none⟩) HX.out.lt).trans (HX.out.cell 8)
      have s9 := fun W' (h : Ext w0.drew W') => (h.cell (p := ⟨W.heap.size, 9, none⟩) HX.out.lt).trans (HX.out.cell 9)
      have s10 := fun W' (h : Ext w0.drew W') => (h.cell (p := ⟨W.heap.size, 10, none⟩) HX.out.lt).trans (HX.out.cell 10)
      have s11 := fun W' (h : Ext w0.drew W') => (h.cell (p := ⟨W.heap.size, 11, none⟩) HX.out.lt).trans (HX.out.cell 11)
      have s12 := fun W' (h : Ext w0.drew W') => (h.cell (p := ⟨W.heap.size, 12, none⟩) HX.out.lt).trans (HX.out.cell 12)
      have s13 := fun W' (h : Ext w0.drew W') => (h.cell (p := ⟨W.heap.size, 13, none⟩) HX.out.lt).trans (HX.out.cell 13)
      have s14 := fun W' (h : Ext w0.drew W') => (h.cell (p := ⟨W.heap.size, 14, none⟩) HX.out.lt).trans (HX.out.cell 14)
      simp at s0 s1 s2 s3 s4 s5 s6 s7 s8 s9 s10 s11 s12 s13 s14
      refine wp_region_plan [(0, false), (1, false), (2, false), (3, false), (4, false), (5, false), (6, false), (7, false), (8, true), (9, false), (10, false)] (by kernel_rfl) (by kernel_rfl) (fun _ d _ _ _ h => by cases d <;> exact h) ?_
      iterate 8 (refine plan_take (v := ?_) rfl (by kernel_rfl) ?_ ?_; rotate_left; (focus (intro w' hw'; try go_simp; try with_reducible rfl)); simp only [Act.put, List.setIfInBounds_toArray, List.set_cons_zero, List.set_cons_succ])
      clear tv s0 s1 s2 s3 s4 s5 s6 s7 s8 s9 s10 s11 s12 s13 s14
      refine plan_call rfl (by kernel_rfl) (by go_simp; exact ⟨rfl, rfl⟩) ?_
      refine (has_any e va _ (hv va rfl) hl).mono ?_
      rintro r w1 ⟨rfl, hb⟩
      have HX1 := Lib.hid (HX.out.drew.below hb HX.out.lt)
      have HB1 := Lib.hid (HB.out.drew.trans (hb.mono HB.out.size))
      refine ⟨_, rfl, hb, ?_⟩
      simp only [Act.put, List.setIfInBounds_toArray, List.set_cons_zero, List.set_cons_succ]
      clear hb
      iterate 2 (refine plan_take (v := ?_) rfl (by kernel_rfl) ?_ ?_; rotate_left; (focus (intro w' hw'; try go_simp; try with_reducible rfl)); simp only [Act.put, List.setIfInBounds_toArray, List.set_cons_zero, List.set_cons_succ])
      refine plan_end ?_
      cases hh : hasB e va
      · rw [hh] at HV
        go_wp2
        go_ret
        exact ⟨by rw [H.out, HV.out]; rfl, HB1.out⟩
      · rw [hh] at HV
        rw [HV.out] at H
        go_wp2_with fail
        have t0 := fun W' (h : Ext w1.drew W') => (h.cell (p := ⟨W.heap.size, 0, none⟩) HX1.out.lt).trans (HX1.out.cell 0)
        have t1 := fun W' (h : Ext w1.drew W') => (h.cell (p := ⟨W.heap.size, 1, none⟩) HX1.out.lt).trans (HX1.out.cell 1)
        have t8 := fun W' (h : Ext w1.drew W') => (h.cell (p := ⟨W.heap.size, 8, none⟩) HX1.out.lt).trans (HX1.out.cell 8)
        simp at t0 t1 t8
        cases hf : e.full
        · rw [hf] at t0 H
          refine wp_region_plan [(0, false), (1, false), (2, false), (3, false), (4, false), (5, false), (6, false), (7, false), (8, false), (9, false), (10, false), (11, false), (12, false), (13, false), (14, false), (15, false), (16, false), (17, false), (18, false), (19, false), (20, false), (21, false), (22, false)] (by kernel_rfl) (by kernel_rfl) (fun _ d _ _ _ h => by cases d <;> exact h) ?_
          iterate 3 (refine plan_take (v := ?_) rfl (by kernel_rfl) ?_ ?_; rotate_left; (focus (intro w' hw'; try go_simp; try with_reducible rfl)); simp only [Act.put, List.setIfInBounds_toArray, List.set_cons_zero, List.set_cons_succ])
          iterate 18 (refine plan_skip rfl (by kernel_rfl) ?_; simp only [Act.put, List.setIfInBounds_toArray, List.set_cons_zero, List.set_cons_succ])
          iterate 2 (refine plan_take (v := ?_) rfl (by kernel_rfl) ?_ ?_; rotate_left; (focus (intro w' hw'; try go_simp; try with_reducible rfl)); simp only [Act.put, List.setIfInBounds_toArray, List.set_cons_zero, List.set_cons_succ])
          refine plan_end ?_
          clear t0 t1 t8
          go_wp2
          go_ret
          exact ⟨by rw [H.out]; simp [asOK, *], HB1.out.drew⟩
        · rw [hf] at t0 H
          refine wp_region_plan [(0, false), (1, false), (2, false), (3, false), (4, false), (5, false), (6, false), (7, false), (8, false), (9, false), (10, false), (11, false), (12, false), (13, false), (14, false), (15, false), (16, false), (17, false), (18, false), (19, false), (20, false), (21, false), (22, false)] (by kernel_rfl) (by kernel_rfl) (fun _ d _ _ _ h => by cases d <;> exact h) ?_
          iterate 7 (refine plan_take (v := ?_) rfl (by kernel_rfl) ?_ ?_; rotate_left; (focus (intro w' hw'; try go_simp; try with_reducible rfl)); simp only [Act.put, List.setIfInBounds_toArray, List.set_cons_zero, List.set_cons_succ])
          iterate 13 (refine plan_skip rfl (by kernel_rfl) ?_; simp only [Act.put, List.setIfInBounds_toArray, List.set_cons_zero, List.set_cons_succ])
          iterate 3 (refine plan_take (v := ?_) rfl (by kernel_rfl) ?_ ?_; rotate_left; (focus (intro w' hw'; try go_simp; try with_reducible rfl)); simp only [Act.put, List.setIfInBounds_toArray, List.set_cons_zero, List.set_cons_succ])
          refine plan_end ?_
          clear t0 t1 t8
          go_wp2
          go_ret
          exact ⟨by rw [H.out]; simp [asOK, *], HB1.out.drew⟩
    · obtain ⟨ga, rfl, hca⟩ := HAA.out
      clear HAA
      go_enter Try.func22, Try.ntmps22
      go_wp2_with fail
      generalize W.alloc (.cells #[.bool e.full, .int .i64 e.asid, .int .u64 e.page, .bool e.lf.v, .bool e.lf.r, .bool e.lf.w, .bool e.lf.x, .bool e.lf.u, .bool e.lf.g, .bool e.lf.a, .bool e.lf.d, .int .i64 e.lf.rsw, .int .u64 e.lf.ppn, .int .i64 e.lf.lev, .int .u64 e.lf.pos] 59) = w0 at *
      have hv1 : w0.cell? ⟨gv, 0, none⟩ = some (.int .u64 va) := by rw [HB.out.cell (cell_lt hcv)]; exact hcv
      have tv := fun W' (h : Ext w0.drew W') => (h.cell (p := ⟨gv, 0, none⟩) (cell_lt hv1)).trans hv1
      have s0 := fun W' (h : Ext w0.drew W') => (h.cell (p := ⟨W.heap.size, 0, none⟩) HX.out.lt).trans (HX.out.cell 0)
      have s1 := fun W' (h : Ext w0.drew W') => (h.cell (p := ⟨W.heap.size, 1, none⟩) HX.out.lt).trans (HX.out.cell 1)
      have s2 := fun W' (h : Ext w0.drew W') => (h.cell (p := ⟨W.heap.size, 2, none⟩) HX.out.lt).trans (HX.out.cell 2)
      have s3 := fun W' (h : Ext w0.drew W') => (h.cell (p := ⟨W.heap.size, 3, none⟩) HX.out.lt).trans (HX.out.cell 3)
      have s4 := fun W' (h : Ext w0.drew W') => (h.cell (p := ⟨W.heap.size, 4, none⟩) HX.out.lt).trans (HX.out.cell 4)
      have s5 := fun W' (h : Ext w0.drew W') => (h.cell (p := ⟨W.heap.size, 5, none⟩) HX.out.lt).trans (HX.out.cell 5)
      have s6 := fun W' (h : Ext w0.drew W') => (h.cell (p := ⟨W.heap.size, 6, none⟩) HX.out.lt).trans (HX.out.cell 6)
      have s7 := fun W' (h : Ext w0.drew W') => (h.cell (p := ⟨W.heap.size, 7, none⟩) HX.out.lt).trans (HX.out.cell 7)
      have s8 := fun W' (h : Ext w0.drew W') => (h.cell (p := ⟨W.heap.size, 8, none⟩) HX.out.lt).trans (HX.out.cell 8)
      have s9 := fun W' (h : Ext w0.drew W') => (h.cell (p := ⟨W.heap.size, 9, none⟩) HX.out.lt).trans (HX.out.cell 9)
      have s10 := fun W' (h : Ext w0.drew W') => (h.cell (p := ⟨W.heap.size, 10, none⟩) HX.out.lt).trans (HX.out.cell 10)
      have s11 := fun W' (h : Ext w0.drew W') => (h.cell (p := ⟨W.heap.size, 11, none⟩) HX.out.lt).trans (HX.out.cell 11)
      have s12 := fun W' (h : Ext w0.drew W') => (h.cell (p := ⟨W.heap.size, 12, none⟩) HX.out.lt).trans (HX.out.cell 12)
      have s13 := fun W' (h : Ext w0.drew W') => (h.cell (p := ⟨W.heap.size, 13, none⟩) HX.out.lt).trans (HX.out.cell 13)
      have s14 := fun W' (h : Ext w0.drew W') => (h.cell (p := ⟨W.heap.size, 14, none⟩) HX.out.lt).trans (HX.out.cell 14)
      simp at s0 s1 s2 s3 s4 s5 s6 s7 s8 s9 s10 s11 s12 s13 s14
      refine wp_region_plan [(0, false), (1, false), (2, false), (3, false), (4, false), (5, false), (6, false), (7, false), (8, true), (9, false), (10, false)] (by kernel_rfl) (by kernel_rfl) (fun _ d _ _ _ h => by cases d <;> exact h) ?_
      iterate 8 (refine plan_take (v := ?_) rfl (by kernel_rfl) ?_ ?_; rotate_left; (focus (intro w' hw'; try go_simp; try with_reducible rfl)); simp only [Act.put, List.setIfInBounds_toArray, List.set_cons_zero, List.set_cons_succ])
      clear tv s0 s1 s2 s3 s4 s5 s6 s7 s8 s9 s10 s11 s12 s13 s14
      refine plan_call rfl (by kernel_rfl) (by go_simp; exact ⟨rfl, rfl⟩) ?_
      refine (has_any e va _ (hv va rfl) hl).mono ?_
      rintro r w1 ⟨rfl, hb⟩
      have HX1 := Lib.hid (HX.out.drew.below hb HX.out.lt)
      have HB1 := Lib.hid (HB.out.drew.trans (hb.mono HB.out.size))
      have hca1 : w1.cell? ⟨ga, 0, none⟩ = some (.int .i64 ai) := by rw [HB1.out.cell (cell_lt hca)]; exact hca
      refine ⟨_, rfl, hb, ?_⟩
      simp only [Act.put, List.setIfInBounds_toArray, List.set_cons_zero, List.set_cons_succ]
      clear hb
      iterate 2 (refine plan_take (v := ?_) rfl (by kernel_rfl) ?_ ?_; rotate_left; (focus (intro w' hw'; try go_simp; try with_reducible rfl)); simp only [Act.put, List.setIfInBounds_toArray, List.set_cons_zero, List.set_cons_succ])
      refine plan_end ?_
      cases hh : hasB e va
      · rw [hh] at HV
        go_wp2
        go_ret
        exact ⟨by rw [H.out, HV.out]; rfl, HB1.out⟩
      · rw [hh] at HV
        rw [HV.out] at H
        go_wp2_with fail
        have t0 := fun W' (h : Ext w1.drew W') => (h.cell (p := ⟨W.heap.size, 0, none⟩) HX1.out.lt).trans (HX1.out.cell 0)
        have t1 := fun W' (h : Ext w1.drew W') => (h.cell (p := ⟨W.heap.size, 1, none⟩) HX1.out.lt).trans (HX1.out.cell 1)
        have t8 := fun W' (h : Ext w1.drew W') => (h.cell (p := ⟨W.heap.size, 8, none⟩) HX1.out.lt).trans (HX1.out.cell 8)
        simp at t0 t1 t8
        cases hf : e.full
        · rw [hf] at t0 H
          refine wp_region_plan [(0, false), (1, false), (2, false), (3, false), (4, false), (5, false), (6, false), (7, false), (8, false), (9, false), (10, false), (11, false), (12, false), (13, false), (14, false), (15, false), (16, false), (17, false), (18, false), (19, false), (20, false), (21, false), (22, false)] (by kernel_rfl) (by kernel_rfl) (fun _ d _ _ _ h => by cases d <;> exact h) ?_
          iterate 3 (refine plan_take (v := ?_) rfl (by kernel_rfl) ?_ ?_; rotate_left; (focus (intro w' hw'; try go_simp; try with_reducible rfl)); simp only [Act.put, List.setIfInBounds_toArray, List.set_cons_zero, List.set_cons_succ])
          iterate 18 (refine plan_skip rfl (by kernel_rfl) ?_; simp only [Act.put, List.setIfInBounds_toArray, List.set_cons_zero, List.set_cons_succ])
          iterate 2 (refine plan_take (v := ?_) rfl (by kernel_rfl) ?_ ?_; rotate_left; (focus (intro w' hw'; try go_simp; try with_reducible rfl)); simp only [Act.put, List.setIfInBounds_toArray, List.set_cons_zero, List.set_cons_succ])
          refine plan_end ?_
          clear t0 t1 t8
          go_wp2
          go_ret
          exact ⟨by rw [H.out]; simp [asOK, *], HB1.out.drew⟩
        · rw [hf] at t0 H
          refine wp_region_plan [(0, false), (1, false), (2, false), (3, false), (4, false), (5, false), (6, false), (7, false), (8, false), (9, false), (10, false), (11, false), (12, false), (13, false), (14, false), (15, false), (16, false), (17, false), (18, false), (19, false), (20, false), (21, false), (22, false)] (by kernel_rfl) (by kernel_rfl) (fun _ d _ _ _ h => by cases d <;> exact h) ?_
          have ta := fun W' (h : Ext w1.drew W') => (h.cell (p := ⟨ga, 0, none⟩) (cell_lt hca1)).trans hca1
          iterate 14 (refine plan_take (v := ?_) rfl (by kernel_rfl) ?_ ?_; rotate_left; (focus (intro w' hw'; try go_simp; try with_reducible rfl)); simp only [Act.put, List.setIfInBounds_toArray, List.set_cons_zero, List.set_cons_succ])
          have HAO : Hid (asOK e (some ai) = (e.asid == ai && !e.lf.g)) := Lib.hid rfl
          cases he : (e.asid == ai)
          · rw [he] at HAO
            iterate 5 (refine plan_skip rfl (by kernel_rfl) ?_; simp only [Act.put, List.setIfInBounds_toArray, List.set_cons_zero, List.set_cons_succ])
            iterate 4 (refine plan_take (v := ?_) rfl (by kernel_rfl) ?_ ?_; rotate_left; (focus (intro w' hw'; try go_simp; try with_reducible rfl)); simp only [Act.put, List.setIfInBounds_toArray, List.set_cons_zero, List.set_cons_succ])
            refine plan_end ?_
            clear t0 t1 t8 ta
            go_wp2
            go_ret
            exact ⟨by rw [H.out, HAO.out]; simp [asOK, *], HB1.out.drew⟩
          · rw [he] at HAO
            iterate 9 (refine plan_take (v := ?_) rfl (by kernel_rfl) ?_ ?_; rotate_left; (focus (intro w' hw'; try go_simp; try with_reducible rfl)); simp only [Act.put, List.setIfInBounds_toArray, List.set_cons_zero, List.set_cons_succ])
            refine plan_end ?_
            clear t0 t1 t8 ta
            go_wp2
            go_ret
            exact ⟨by rw [H.out, HAO.out]; simp [asOK, *], HB1.out.drew⟩
end Go.Proofs.Ytnjoobggcejgkaa
