/- Merged texts: TlbB, TlbC, TlbD, TlbE. -/
import Derived.Test.YtecalibnnfcaeaaMm7
/- matches, goes; the reference's Page. -/
namespace Go.Proofs.Ytecalibnnfcaeaa
open Go.RowKit

set_option maxHeartbeats 1000000 in
theorem matches_any (e : En) (va : Nat) (asid : Int) (W : World) (hv : va < 18446744073709551616) (hl : e.full = true → levOK e.lf.lev = true) :
    Calls Try.prog 85 #[e.val, .int .u64 va, .int .i64 asid] W fun r w' => r = .returned (.bool (matchB e va asid)) ∧ Below W.heap.size W w' := by
  have H : Hid (matchB e va asid = (hasB e va && (e.asid == asid || e.lf.g))) := Lib.hid rfl
  have hB : Below W.heap.size W (W.alloc (.cells e.vs.toArray 110)) := (Below.refl _ W).alloc (Nat.le_refl _) _
  have hX : Blk (W.alloc (.cells e.vs.toArray 110)) W.heap.size 110 e.vs.toArray := Blkf.new_at _ _ _ _ rfl
  unfold En.val
  unfold En.vs at hX hB
  have HB := Lib.hid hB
  have HX := Lib.hid hX
  clear hX hB
  go_enter Try.func85, Try.ntmps85
  go_wp2_with fail
  generalize W.alloc (.cells #[.bool e.full, .int .i64 e.asid, .int .u64 e.page, .bool e.lf.v, .bool e.lf.r, .bool e.lf.w, .bool e.lf.x, .bool e.lf.u, .bool e.lf.g, .bool e.lf.a, .bool e.lf.d, .int .i64 e.lf.rsw, .int .u64 e.lf.ppn, .int .i64 e.lf.lev, .int .u64 e.lf.pos] 110) = w0 at *
  have x0 := HX.out.cell 0
  have x1 := HX.out.cell 1
  have x2 := HX.out.cell 2
  have x3 := HX.out.cell 3
  have x4 := HX.out.cell 4
  have x5 := HX.out.cell 5
  have x6 := HX.out.cell 6
  have x7 := HX.out.cell 7
  have x8 := HX.out.cell 8
  have x9 := HX.out.cell 9
  have x10 := HX.out.cell 10
  have x11 := HX.out.cell 11
  have x12 := HX.out.cell 12
  have x13 := HX.out.cell 13
  have x14 := HX.out.cell 14
  have xl := HX.out.lt
  simp at x0 x1 x2 x3 x4 x5 x6 x7 x8 x9 x10 x11 x12 x13 x14
  refine (has_any e va _ hv hl).mono ?_
  rintro r w1 ⟨rfl, hb⟩
  have HX1 := Lib.hid (HX.out.below hb HX.out.lt)
  have HB1 := Lib.hid (HB.out.trans (hb.mono HB.out.size))
  clear hb x0 x1 x2 x3 x4 x5 x6 x7 x8 x9 x10 x11 x12 x13 x14 xl
  have x1 := HX1.out.cell 1
  have x8 := HX1.out.cell 8
  have xl := HX1.out.lt
  simp at x1 x8
  cases hh : hasB e va
  · rw [hh] at H
    go_wp2
    go_ret
    exact ⟨by rw [H.out]; rfl, HB1.out⟩
  · rw [hh] at H
    cases ha : (e.asid == asid)
    · rw [ha] at H
      go_wp2
      go_ret
      exact ⟨by rw [H.out]; rfl, HB1.out⟩
    · rw [ha] at H
      go_wp2
      go_ret
      exact ⟨by rw [H.out]; rfl, HB1.out⟩
/-- A slice of at most one. -/
def OneU (w : World) : Option Nat → Value → Prop
  | none, v => v = .slice none 0 0
  | some x, v => ∃ g, v = .slice (some ⟨g, 0, none⟩) 1 1 ∧ w.cell? ⟨g, 0, none⟩ = some (.int .u64 x)
def OneI (w : World) : Option Int → Value → Prop
  | none, v => v = .slice none 0 0
  | some x, v => ∃ g, v = .slice (some ⟨g, 0, none⟩) 1 1 ∧ w.cell? ⟨g, 0, none⟩ = some (.int .i64 x)
theorem OneU.keep {w w' : World} {o : Option Nat} {v : Value} (h : OneU w o v) (hk : ∀ g, ∀ x, w.cell? ⟨g, 0, none⟩ = some (.int .u64 x) → w'.cell? ⟨g, 0, none⟩ = some (.int .u64 x)) : OneU w' o v := by
  cases o with
  | none => exact h
  | some x =>
    obtain ⟨g, e, hc⟩ := h
    exact ⟨g, e, hk g x hc⟩
theorem OneI.keep {w w' : World} {o : Option Int} {v : Value} (h : OneI w o v) (hk : ∀ g, ∀ x, w.cell? ⟨g, 0, none⟩ = some (.int .i64 x) → w'.cell? ⟨g, 0, none⟩ = some (.int .i64 x)) : OneI w' o v := by
  cases o with
  | none => exact h
  | some x =>
    obtain ⟨g, e, hc⟩ := h
    exact ⟨g, e, hk g x hc⟩
theorem OneU.below {w w' : World} {o : Option Nat} {v : Value} (h : OneU w o v) (hb : Below w.heap.size w w') : OneU w' o v := h.keep fun g x hc => by rw [hb.cell (cell_lt hc)]; exact hc
theorem OneI.below {w w' : World} {o : Option Int} {v : Value} (h : OneI w o v) (hb : Below w.heap.size w w') : OneI w' o v := h.keep fun g x hc => by rw [hb.cell (cell_lt hc)]; exact hc
def vaOK (e : En) : Option Nat → Bool
  | none => true
  | some va => hasB e va
def asOK (e : En) : Option Int → Bool
  | none => true
  | some a => e.asid == a && !e.lf.g
def goesB (e : En) (vo : Option Nat) (ao : Option Int) : Bool := vaOK e vo && (e.full && asOK e ao)
set_option maxHeartbeats 2000000 in
theorem goes_any (e : En) (vo : Option Nat) (ao : Option Int) (V A : Value) (W : World) (hv : ∀ va, vo = some va → va < 18446744073709551616) (hl : e.full = true → levOK e.lf.lev = true) (hV : OneU W vo V) (hA : OneI W ao A) :
    Calls Try.prog 62 #[e.val, V, A] W fun r w' => r = .returned (.bool (goesB e vo ao)) ∧ Below W.heap.size W w' := by
  have H : Hid (goesB e vo ao = (vaOK e vo && (e.full && asOK e ao))) := Lib.hid rfl
  have HVV := Lib.hid hV
  have HAA := Lib.hid hA
  clear hV hA
  have hB : Below W.heap.size W (W.alloc (.cells e.vs.toArray 110)) := (Below.refl _ W).alloc (Nat.le_refl _) _
  have hX : Blk (W.alloc (.cells e.vs.toArray 110)) W.heap.size 110 e.vs.toArray := Blkf.new_at _ _ _ _ rfl
  unfold En.val
  unfold En.vs at hX hB
  have HB := Lib.hid hB
  have HX := Lib.hid hX
  clear hX hB
  rcases vo with _ | va
  · obtain rfl := HVV.out
    rw [show vaOK e none = true from rfl] at H
    rcases ao with _ | ai
    · obtain rfl := HAA.out
      go_enter Try.func62, Try.ntmps62
      go_wp2_with fail
      generalize W.alloc (.cells #[.bool e.full, .int .i64 e.asid, .int .u64 e.page, .bool e.lf.v, .bool e.lf.r, .bool e.lf.w, .bool e.lf.x, .bool e.lf.u, .bool e.lf.g, .bool e.lf.a, .bool e.lf.d, .int .i64 e.lf.rsw, .int .u64 e.lf.ppn, .int .i64 e.lf.lev, .int .u64 e.lf.pos] 110) = w0 at *
      refine wp_region_plan [(0, false), (1, false), (2, false), (3, false), (4, false), (5, false), (6, false), (7, false), (8, true), (9, false), (10, false)] (by kernel_rfl) (by kernel_rfl) (fun _ d _ _ _ h => by cases d <;> exact h) ?_
      iterate 4 (refine plan_take (v := ?_) rfl (by kernel_rfl) ?_ ?_; rotate_left; (focus (intro w' hw'; try go_simp; try with_reducible rfl)); simp only [Act.put, List.setIfInBounds_toArray, List.set_cons_zero, List.set_cons_succ])
      iterate 4 (refine plan_skip rfl (by kernel_rfl) ?_; simp only [Act.put, List.setIfInBounds_toArray, List.set_cons_zero, List.set_cons_succ])
      refine plan_pass later_ext rfl (by kernel_rfl) ?_
      simp only [Act.put, List.setIfInBounds_toArray, List.set_cons_zero, List.set_cons_succ]
      iterate 1 (refine plan_skip rfl (by kernel_rfl) ?_; simp only [Act.put, List.setIfInBounds_toArray, List.set_cons_zero, List.set_cons_succ])
      iterate 1 (refine plan_take (v := ?_) rfl (by kernel_rfl) ?_ ?_; rotate_left; (focus (intro w' hw'; try go_simp; try with_reducible rfl)); simp only [Act.put, List.setIfInBounds_toArray, List.set_cons_zero, List.set_cons_succ])
      refine plan_end ?_
      have HX1 := Lib.hid HX.out.drew
      have HB1 := Lib.hid HB.out.drew
      generalize w0.drew = w1 at *
      go_wp2_with fail
      have t0 := fun W' (h : Ext w1.drew W') => (h.cell (p := ⟨W.heap.size, 0, none⟩) HX1.out.lt).trans (HX1.out.cell 0)
      have t1 := fun W' (h : Ext w1.drew W') => (h.cell (p := ⟨W.heap.size, 1, none⟩) HX1.out.lt).trans (HX1.out.cell 1)
      have t8 := fun W' (h : Ext w1.drew W') => (h.cell (p := ⟨W.heap.size, 8, none⟩) HX1.out.lt).trans (HX1.out.cell 8)
      simp at t0 t1 t8
      cases hf : e.full
      · rw [hf] at t0 H
        refine wp_region_plan [(0, false), (1, false), (2, false), (3, false), (4, false), (5, false), (6, false), (7, false), (8, false), (9, false), (10, false), (11, false), (12, false), (13, false), (14, false), (15, false), (16, false), (17, false), (18, false), (19, false), (20, false), (21, false), (22, false)] (by kernel_rfl) (by kernel_rfl) (fun _ d _ _ _ h => by cases d <;> exact h) ?_
        iterate 3 (refine plan_take (v := ?_) rfl (by kernel_rfl) ?_ ?_; rotate_left; (focus (intro w' hw'; try go_simp; try with_reducible rfl)); simp only [Act.put, List.setIfInBounds_toArray, List.set_cons_zero, List.set_cons_succ])
        iterate 18 (refine plan_skip rfl (by kernel_rfl) ?_; simp only [Act.put, List.setIfInBounds_toArray, List.set_cons_zero, List.set_cons_succ])
        iterate 2 (refine plan_take (v := ?_) rfl (by kernel_rfl) ?_ ?_; rotate_left; (focus (intro w' hw'; try go_simp; try with_reducible rfl)); simp only [Act.put, List.setIfInBounds_toArray, List.set_cons_zero, List.set_cons_succ])
        refine plan_end ?_
        clear t0 t1 t8
        go_wp2
        go_ret
        exact ⟨by rw [H.out]; simp [asOK, *], HB1.out.drew⟩
      · rw [hf] at t0 H
        refine wp_region_plan [(0, false), (1, false), (2, false), (3, false), (4, false), (5, false), (6, false), (7, false), (8, false), (9, false), (10, false), (11, false), (12, false), (13, false), (14, false), (15, false), (16, false), (17, false), (18, false), (19, false), (20, false), (21, false), (22, false)] (by kernel_rfl) (by kernel_rfl) (fun _ d _ _ _ h => by cases d <;> exact h) ?_
        iterate 7 (refine plan_take (v := ?_) rfl (by kernel_rfl) ?_ ?_; rotate_left; (focus (intro w' hw'; try go_simp; try with_reducible rfl)); simp only [Act.put, List.setIfInBounds_toArray, List.set_cons_zero, List.set_cons_succ])
        iterate 13 (refine plan_skip rfl (by kernel_rfl) ?_; simp only [Act.put, List.setIfInBounds_toArray, List.set_cons_zero, List.set_cons_succ])
        iterate 3 (refine plan_take (v := ?_) rfl (by kernel_rfl) ?_ ?_; rotate_left; (focus (intro w' hw'; try go_simp; try with_reducible rfl)); simp only [Act.put, List.setIfInBounds_toArray, List.set_cons_zero, List.set_cons_succ])
        refine plan_end ?_
        clear t0 t1 t8
        go_wp2
        go_ret
        exact ⟨by rw [H.out]; simp [asOK, *], HB1.out.drew⟩
    · obtain ⟨ga, rfl, hca⟩ := HAA.out
      clear HAA
      go_enter Try.func62, Try.ntmps62
      go_wp2_with fail
      generalize W.alloc (.cells #[.bool e.full, .int .i64 e.asid, .int .u64 e.page, .bool e.lf.v, .bool e.lf.r, .bool e.lf.w, .bool e.lf.x, .bool e.lf.u, .bool e.lf.g, .bool e.lf.a, .bool e.lf.d, .int .i64 e.lf.rsw, .int .u64 e.lf.ppn, .int .i64 e.lf.lev, .int .u64 e.lf.pos] 110) = w0 at *
      refine wp_region_plan [(0, false), (1, false), (2, false), (3, false), (4, false), (5, false), (6, false), (7, false), (8, true), (9, false), (10, false)] (by kernel_rfl) (by kernel_rfl) (fun _ d _ _ _ h => by cases d <;> exact h) ?_
      iterate 4 (refine plan_take (v := ?_) rfl (by kernel_rfl) ?_ ?_; rotate_left; (focus (intro w' hw'; try go_simp; try with_reducible rfl)); simp only [Act.put, List.setIfInBounds_toArray, List.set_cons_zero, List.set_cons_succ])
      iterate 4 (refine plan_skip rfl (by kernel_rfl) ?_; simp only [Act.put, List.setIfInBounds_toArray, List.set_cons_zero, List.set_cons_succ])
      refine plan_pass later_ext rfl (by kernel_rfl) ?_
      simp only [Act.put, List.setIfInBounds_toArray, List.set_cons_zero, List.set_cons_succ]
      iterate 1 (refine plan_skip rfl (by kernel_rfl) ?_; simp only [Act.put, List.setIfInBounds_toArray, List.set_cons_zero, List.set_cons_succ])
      iterate 1 (refine plan_take (v := ?_) rfl (by kernel_rfl) ?_ ?_; rotate_left; (focus (intro w' hw'; try go_simp; try with_reducible rfl)); simp only [Act.put, List.setIfInBounds_toArray, List.set_cons_zero, List.set_cons_succ])
      refine plan_end ?_
      have HX1 := Lib.hid HX.out.drew
      have HB1 := Lib.hid HB.out.drew
      have hca1 : w0.drew.cell? ⟨ga, 0, none⟩ = some (.int .i64 ai) := by rw [HB1.out.cell (cell_lt hca)]; exact hca
      generalize w0.drew = w1 at *
      go_wp2_with fail
      have t0 := fun W' (h : Ext w1.drew W') => (h.cell (p := ⟨W.heap.size, 0, none⟩) HX1.out.lt).trans (HX1.out.cell 0)
      have t1 := fun W' (h : Ext w1.drew W') => (h.cell (p := ⟨W.heap.size, 1, none⟩) HX1.out.lt).trans (HX1.out.cell 1)
      have t8 := fun W' (h : Ext w1.drew W') => (h.cell (p := ⟨W.heap.size, 8, none⟩) HX1.out.lt).trans (HX1.out.cell 8)
      simp at t0 t1 t8
      cases hf : e.full
      · rw [hf] at t0 H
        refine wp_region_plan [(0, false), (1, false), (2, false), (3, false), (4, false), (5, false), (6, false), (7, false), (8, false), (9, false), (10, false), (11, false), (12, false), (13, false), (14, false), (15, false), (16, false), (17, false), (18, false), (19, false), (20, false), (21, false), (22, false)] (by kernel_rfl) (by kernel_rfl) (fun _ d _ _ _ h => by cases d <;> exact h) ?_
        iterate 3 (refine plan_take (v := ?_) rfl (by kernel_rfl) ?_ ?_; rotate_left; (focus (intro w' hw'; try go_simp; try with_reducible rfl)); simp only [Act.put, List.setIfInBounds_toArray, List.set_cons_zero, List.set_cons_succ])
        iterate 18 (refine plan_skip rfl (by kernel_rfl) ?_; simp only [Act.put, List.setIfInBounds_toArray, List.set_cons_zero, List.set_cons_succ])
        iterate 2 (refine plan_take (v := ?_) rfl (by kernel_rfl) ?_ ?_; rotate_left; (focus (intro w' hw'; try go_simp; try with_reducible rfl)); simp only [Act.put, List.setIfInBounds_toArray, List.set_cons_zero, List.set_cons_succ])
        refine plan_end ?_
        clear t0 t1 t8
        go_wp2
        go_ret
        exact ⟨by rw [H.out]; simp [asOK, *], HB1.out.drew⟩
      · rw [hf] at t0 H
        refine wp_region_plan [(0, false), (1, false), (2, false), (3, false), (4, false), (5, false), (6, false), (7, false), (8, false), (9, false), (10, false), (11, false), (12, false), (13, false), (14, false), (15, false), (16, false), (17, false), (18, false), (19, false), (20, false), (21, false), (22, false)] (by kernel_rfl) (by kernel_rfl) (fun _ d _ _ _ h => by cases d <;> exact h) ?_
        have ta := fun W' (h : Ext w1.drew W') => (h.cell (p := ⟨ga, 0, none⟩) (cell_lt hca1)).trans hca1
        iterate 14 (refine plan_take (v := ?_) rfl (by kernel_rfl) ?_ ?_; rotate_left; (focus (intro w' hw'; try go_simp; try with_reducible rfl)); simp only [Act.put, List.setIfInBounds_toArray, List.set_cons_zero, List.set_cons_succ])
        have HAO : Hid (asOK e (some ai) = (e.asid == ai && !e.lf.g)) := Lib.hid rfl
        cases he : (e.asid == ai)
        · rw [he] at HAO
          iterate 5 (refine plan_skip rfl (by kernel_rfl) ?_; simp only [Act.put, List.setIfInBounds_toArray, List.set_cons_zero, List.set_cons_succ])
          iterate 4 (refine plan_take (v := ?_) rfl (by kernel_rfl) ?_ ?_; rotate_left; (focus (intro w' hw'; try go_simp; try with_reducible rfl)); simp only [Act.put, List.setIfInBounds_toArray, List.set_cons_zero, List.set_cons_succ])
          refine plan_end ?_
          clear t0 t1 t8 ta
          go_wp2
          go_ret
          exact ⟨by rw [H.out, HAO.out]; simp [asOK, *], HB1.out.drew⟩
        · rw [he] at HAO
          iterate 9 (refine plan_take (v := ?_) rfl (by kernel_rfl) ?_ ?_; rotate_left; (focus (intro w' hw'; try go_simp; try with_reducible rfl)); simp only [Act.put, List.setIfInBounds_toArray, List.set_cons_zero, List.set_cons_succ])
          refine plan_end ?_
          clear t0 t1 t8 ta
          go_wp2
          go_ret
          exact ⟨by rw [H.out, HAO.out]; simp [asOK, *], HB1.out.drew⟩
  · obtain ⟨gv, rfl, hcv⟩ := HVV.out
    clear HVV
    have HV : Hid (vaOK e (some va) = hasB e va) := Lib.hid rfl
    rcases ao with _ | ai
    · obtain rfl := HAA.out
      go_enter Try.func62, Try.ntmps62
      go_wp2_with fail
      generalize W.alloc (.cells #[.bool e.full, .int .i64 e.asid, .int .u64 e.page, .bool e.lf.v, .bool e.lf.r, .bool e.lf.w, .bool e.lf.x, .bool e.lf.u, .bool e.lf.g, .bool e.lf.a, .bool e.lf.d, .int .i64 e.lf.rsw, .int .u64 e.lf.ppn, .int .i64 e.lf.lev, .int .u64 e.lf.pos] 110) = w0 at *
      have hv1 : w0.cell? ⟨gv, 0, none⟩ = some (.int .u64 va) := by rw [HB.out.cell (cell_lt hcv)]; exact hcv
      have tv := fun W' (h : Ext w0.drew W') => (h.cell (p := ⟨gv, 0, none⟩) (cell_lt hv1)).trans hv1
      have s0 := fun W' (h : Ext w0.drew W') => (h.cell (p := ⟨W.heap.size, 0, none⟩) HX.out.lt).trans (HX.out.cell 0)
      have s1 := fun W' (h : Ext w0.drew W') => (h.cell (p := ⟨W.heap.size, 1, none⟩) HX.out.lt).trans (HX.out.cell 1)
      have s2 := fun W' (h : Ext w0.drew W') => (h.cell (p := ⟨W.heap.size, 2, none⟩) HX.out.lt).trans (HX.out.cell 2)
      have s3 := fun W' (h : Ext w0.drew W') => (h.cell (p := ⟨W.heap.size, 3, none⟩) HX.out.lt).trans (HX.out.cell 3)
      have s4 := fun W' (h : Ext w0.drew W') => (h.cell (p := ⟨W.heap.size, 4, none⟩) HX.out.lt).trans (HX.out.cell 4)
      have s5 := fun W' (h : Ext w0.drew W') => (h.cell (p := ⟨W.heap.size, 5, none⟩) HX.out.lt).trans (HX.out.cell 5)
      have s6 := fun W' (h : Ext w0.drew W') => (h.cell (p := ⟨W.heap.size, 6, none⟩) HX.out.lt).trans (HX.out.cell 6)
      have s7 := fun W' (h : Ext w0.drew W') => (h.cell (p := ⟨W.heap.size, 7, none⟩) HX.out.lt).trans (HX.out.cell 7)
      have s8 := fun W' (h : Ext w0.drew W') => (h.cell (p := ⟨W.heap.size, 8, none⟩) HX.out.lt).trans (HX.out.cell 8)
      have s9 := fun W' (h : Ext w0.drew W') => (h.cell (p := ⟨W.heap.size, 9, none⟩) HX.out.lt).trans (HX.out.cell 9)
      have s10 := fun W' (h : Ext w0.drew W') => (h.cell (p := ⟨W.heap.size, 10, none⟩) HX.out.lt).trans (HX.out.cell 10)
      have s11 := fun W' (h : Ext w0.drew W') => (h.cell (p := ⟨W.heap.size, 11, none⟩) HX.out.lt).trans (HX.out.cell 11)
      have s12 := fun W' (h : Ext w0.drew W') => (h.cell (p := ⟨W.heap.size, 12, none⟩) HX.out.lt).trans (HX.out.cell 12)
      have s13 := fun W' (h : Ext w0.drew W') => (h.cell (p := ⟨W.heap.size, 13, none⟩) HX.out.lt).trans (HX.out.cell 13)
      have s14 := fun W' (h : Ext w0.drew W') => (h.cell (p := ⟨W.heap.size, 14, none⟩) HX.out.lt).trans (HX.out.cell 14)
      simp at s0 s1 s2 s3 s4 s5 s6 s7 s8 s9 s10 s11 s12 s13 s14
      refine wp_region_plan [(0, false), (1, false), (2, false), (3, false), (4, false), (5, false), (6, false), (7, false), (8, true), (9, false), (10, false)] (by kernel_rfl) (by kernel_rfl) (fun _ d _ _ _ h => by cases d <;> exact h) ?_
      iterate 8 (refine plan_take (v := ?_) rfl (by kernel_rfl) ?_ ?_; rotate_left; (focus (intro w' hw'; try go_simp; try with_reducible rfl)); simp only [Act.put, List.setIfInBounds_toArray, List.set_cons_zero, List.set_cons_succ])
      clear tv s0 s1 s2 s3 s4 s5 s6 s7 s8 s9 s10 s11 s12 s13 s14
      refine plan_call rfl (by kernel_rfl) (by go_simp; exact ⟨rfl, rfl⟩) ?_
      refine (has_any e va _ (hv va rfl) hl).mono ?_
      rintro r w1 ⟨rfl, hb⟩
      have HX1 := Lib.hid (HX.out.drew.below hb HX.out.lt)
      have HB1 := Lib.hid (HB.out.drew.trans (hb.mono HB.out.size))
      refine ⟨_, rfl, hb, ?_⟩
      simp only [Act.put, List.setIfInBounds_toArray, List.set_cons_zero, List.set_cons_succ]
      clear hb
      iterate 2 (refine plan_take (v := ?_) rfl (by kernel_rfl) ?_ ?_; rotate_left; (focus (intro w' hw'; try go_simp; try with_reducible rfl)); simp only [Act.put, List.setIfInBounds_toArray, List.set_cons_zero, List.set_cons_succ])
      refine plan_end ?_
      cases hh : hasB e va
      · rw [hh] at HV
        go_wp2
        go_ret
        exact ⟨by rw [H.out, HV.out]; rfl, HB1.out⟩
      · rw [hh] at HV
        rw [HV.out] at H
        go_wp2_with fail
        have t0 := fun W' (h : Ext w1.drew W') => (h.cell (p := ⟨W.heap.size, 0, none⟩) HX1.out.lt).trans (HX1.out.cell 0)
        have t1 := fun W' (h : Ext w1.drew W') => (h.cell (p := ⟨W.heap.size, 1, none⟩) HX1.out.lt).trans (HX1.out.cell 1)
        have t8 := fun W' (h : Ext w1.drew W') => (h.cell (p := ⟨W.heap.size, 8, none⟩) HX1.out.lt).trans (HX1.out.cell 8)
        simp at t0 t1 t8
        cases hf : e.full
        · rw [hf] at t0 H
          refine wp_region_plan [(0, false), (1, false), (2, false), (3, false), (4, false), (5, false), (6, false), (7, false), (8, false), (9, false), (10, false), (11, false), (12, false), (13, false), (14, false), (15, false), (16, false), (17, false), (18, false), (19, false), (20, false), (21, false), (22, false)] (by kernel_rfl) (by kernel_rfl) (fun _ d _ _ _ h => by cases d <;> exact h) ?_
          iterate 3 (refine plan_take (v := ?_) rfl (by kernel_rfl) ?_ ?_; rotate_left; (focus (intro w' hw'; try go_simp; try with_reducible rfl)); simp only [Act.put, List.setIfInBounds_toArray, List.set_cons_zero, List.set_cons_succ])
          iterate 18 (refine plan_skip rfl (by kernel_rfl) ?_; simp only [Act.put, List.setIfInBounds_toArray, List.set_cons_zero, List.set_cons_succ])
          iterate 2 (refine plan_take (v := ?_) rfl (by kernel_rfl) ?_ ?_; rotate_left; (focus (intro w' hw'; try go_simp; try with_reducible rfl)); simp only [Act.put, List.setIfInBounds_toArray, List.set_cons_zero, List.set_cons_succ])
          refine plan_end ?_
          clear t0 t1 t8
          go_wp2
          go_ret
          exact ⟨by rw [H.out]; simp [asOK, *], HB1.out.drew⟩
        · rw [hf] at t0 H
          refine wp_region_plan [(0, false), (1, false), (2, false), (3, false), (4, false), (5, false), (6, false), (7, false), (8, false), (9, false), (10, false), (11, false), (12, false), (13, false), (14, false), (15, false), (16, false), (17, false), (18, false), (19, false), (20, false), (21, false), (22, false)] (by kernel_rfl) (by kernel_rfl) (fun _ d _ _ _ h => by cases d <;> exact h) ?_
          iterate 7 (refine plan_take (v := ?_) rfl (by kernel_rfl) ?_ ?_; rotate_left; (focus (intro w' hw'; try go_simp; try with_reducible rfl)); simp only [Act.put, List.setIfInBounds_toArray, List.set_cons_zero, List.set_cons_succ])
          iterate 13 (refine plan_skip rfl (by kernel_rfl) ?_; simp only [Act.put, List.setIfInBounds_toArray, List.set_cons_zero, List.set_cons_succ])
          iterate 3 (refine plan_take (v := ?_) rfl (by kernel_rfl) ?_ ?_; rotate_left; (focus (intro w' hw'; try go_simp; try with_reducible rfl)); simp only [Act.put, List.setIfInBounds_toArray, List.set_cons_zero, List.set_cons_succ])
          refine plan_end ?_
          clear t0 t1 t8
          go_wp2
          go_ret
          exact ⟨by rw [H.out]; simp [asOK, *], HB1.out.drew⟩
    · obtain ⟨ga, rfl, hca⟩ := HAA.out
      clear HAA
      go_enter Try.func62, Try.ntmps62
      go_wp2_with fail
      generalize W.alloc (.cells #[.bool e.full, .int .i64 e.asid, .int .u64 e.page, .bool e.lf.v, .bool e.lf.r, .bool e.lf.w, .bool e.lf.x, .bool e.lf.u, .bool e.lf.g, .bool e.lf.a, .bool e.lf.d, .int .i64 e.lf.rsw, .int .u64 e.lf.ppn, .int .i64 e.lf.lev, .int .u64 e.lf.pos] 110) = w0 at *
      have hv1 : w0.cell? ⟨gv, 0, none⟩ = some (.int .u64 va) := by rw [HB.out.cell (cell_lt hcv)]; exact hcv
      have tv := fun W' (h : Ext w0.drew W') => (h.cell (p := ⟨gv, 0, none⟩) (cell_lt hv1)).trans hv1
      have s0 := fun W' (h : Ext w0.drew W') => (h.cell (p := ⟨W.heap.size, 0, none⟩) HX.out.lt).trans (HX.out.cell 0)
      have s1 := fun W' (h : Ext w0.drew W') => (h.cell (p := ⟨W.heap.size, 1, none⟩) HX.out.lt).trans (HX.out.cell 1)
      have s2 := fun W' (h : Ext w0.drew W') => (h.cell (p := ⟨W.heap.size, 2, none⟩) HX.out.lt).trans (HX.out.cell 2)
      have s3 := fun W' (h : Ext w0.drew W') => (h.cell (p := ⟨W.heap.size, 3, none⟩) HX.out.lt).trans (HX.out.cell 3)
      have s4 := fun W' (h : Ext w0.drew W') => (h.cell (p := ⟨W.heap.size, 4, none⟩) HX.out.lt).trans (HX.out.cell 4)
      have s5 := fun W' (h : Ext w0.drew W') => (h.cell (p := ⟨W.heap.size, 5, none⟩) HX.out.lt).trans (HX.out.cell 5)
      have s6 := fun W' (h : Ext w0.drew W') => (h.cell (p := ⟨W.heap.size, 6, none⟩) HX.out.lt).trans (HX.out.cell 6)
      have s7 := fun W' (h : Ext w0.drew W') => (h.cell (p := ⟨W.heap.size, 7, none⟩) HX.out.lt).trans (HX.out.cell 7)
      have s8 := fun W' (h : Ext w0.drew W') => (h.cell (p := ⟨W.heap.size, 8, none⟩) HX.out.lt).trans (HX.out.cell 8)
      have s9 := fun W' (h : Ext w0.drew W') => (h.cell (p := ⟨W.heap.size, 9, none⟩) HX.out.lt).trans (HX.out.cell 9)
      have s10 := fun W' (h : Ext w0.drew W') => (h.cell (p := ⟨W.heap.size, 10, none⟩) HX.out.lt).trans (HX.out.cell 10)
      have s11 := fun W' (h : Ext w0.drew W') => (h.cell (p := ⟨W.heap.size, 11, none⟩) HX.out.lt).trans (HX.out.cell 11)
      have s12 := fun W' (h : Ext w0.drew W') => (h.cell (p := ⟨W.heap.size, 12, none⟩) HX.out.lt).trans (HX.out.cell 12)
      have s13 := fun W' (h : Ext w0.drew W') => (h.cell (p := ⟨W.heap.size, 13, none⟩) HX.out.lt).trans (HX.out.cell 13)
      have s14 := fun W' (h : Ext w0.drew W') => (h.cell (p := ⟨W.heap.size, 14, none⟩) HX.out.lt).trans (HX.out.cell 14)
      simp at s0 s1 s2 s3 s4 s5 s6 s7 s8 s9 s10 s11 s12 s13 s14
      refine wp_region_plan [(0, false), (1, false), (2, false), (3, false), (4, false), (5, false), (6, false), (7, false), (8, true), (9, false), (10, false)] (by kernel_rfl) (by kernel_rfl) (fun _ d _ _ _ h => by cases d <;> exact h) ?_
      iterate 8 (refine plan_take (v := ?_) rfl (by kernel_rfl) ?_ ?_; rotate_left; (focus (intro w' hw'; try go_simp; try with_reducible rfl)); simp only [Act.put, List.setIfInBounds_toArray, List.set_cons_zero, List.set_cons_succ])
      clear tv s0 s1 s2 s3 s4 s5 s6 s7 s8 s9 s10 s11 s12 s13 s14
      refine plan_call rfl (by kernel_rfl) (by go_simp; exact ⟨rfl, rfl⟩) ?_
      refine (has_any e va _ (hv va rfl) hl).mono ?_
      rintro r w1 ⟨rfl, hb⟩
      have HX1 := Lib.hid (HX.out.drew.below hb HX.out.lt)
      have HB1 := Lib.hid (HB.out.drew.trans (hb.mono HB.out.size))
      have hca1 : w1.cell? ⟨ga, 0, none⟩ = some (.int .i64 ai) := by rw [HB1.out.cell (cell_lt hca)]; exact hca
      refine ⟨_, rfl, hb, ?_⟩
      simp only [Act.put, List.setIfInBounds_toArray, List.set_cons_zero, List.set_cons_succ]
      clear hb
      iterate 2 (refine plan_take (v := ?_) rfl (by kernel_rfl) ?_ ?_; rotate_left; (focus (intro w' hw'; try go_simp; try with_reducible rfl)); simp only [Act.put, List.setIfInBounds_toArray, List.set_cons_zero, List.set_cons_succ])
      refine plan_end ?_
      cases hh : hasB e va
      · rw [hh] at HV
        go_wp2
        go_ret
        exact ⟨by rw [H.out, HV.out]; rfl, HB1.out⟩
      · rw [hh] at HV
        rw [HV.out] at H
        go_wp2_with fail
        have t0 := fun W' (h : Ext w1.drew W') => (h.cell (p := ⟨W.heap.size, 0, none⟩) HX1.out.lt).trans (HX1.out.cell 0)
        have t1 := fun W' (h : Ext w1.drew W') => (h.cell (p := ⟨W.heap.size, 1, none⟩) HX1.out.lt).trans (HX1.out.cell 1)
        have t8 := fun W' (h : Ext w1.drew W') => (h.cell (p := ⟨W.heap.size, 8, none⟩) HX1.out.lt).trans (HX1.out.cell 8)
        simp at t0 t1 t8
        cases hf : e.full
        · rw [hf] at t0 H
          refine wp_region_plan [(0, false), (1, false), (2, false), (3, false), (4, false), (5, false), (6, false), (7, false), (8, false), (9, false), (10, false), (11, false), (12, false), (13, false), (14, false), (15, false), (16, false), (17, false), (18, false), (19, false), (20, false), (21, false), (22, false)] (by kernel_rfl) (by kernel_rfl) (fun _ d _ _ _ h => by cases d <;> exact h) ?_
          iterate 3 (refine plan_take (v := ?_) rfl (by kernel_rfl) ?_ ?_; rotate_left; (focus (intro w' hw'; try go_simp; try with_reducible rfl)); simp only [Act.put, List.setIfInBounds_toArray, List.set_cons_zero, List.set_cons_succ])
          iterate 18 (refine plan_skip rfl (by kernel_rfl) ?_; simp only [Act.put, List.setIfInBounds_toArray, List.set_cons_zero, List.set_cons_succ])
          iterate 2 (refine plan_take (v := ?_) rfl (by kernel_rfl) ?_ ?_; rotate_left; (focus (intro w' hw'; try go_simp; try with_reducible rfl)); simp only [Act.put, List.setIfInBounds_toArray, List.set_cons_zero, List.set_cons_succ])
          refine plan_end ?_
          clear t0 t1 t8
          go_wp2
          go_ret
          exact ⟨by rw [H.out]; simp [asOK, *], HB1.out.drew⟩
        · rw [hf] at t0 H
          refine wp_region_plan [(0, false), (1, false), (2, false), (3, false), (4, false), (5, false), (6, false), (7, false), (8, false), (9, false), (10, false), (11, false), (12, false), (13, false), (14, false), (15, false), (16, false), (17, false), (18, false), (19, false), (20, false), (21, false), (22, false)] (by kernel_rfl) (by kernel_rfl) (fun _ d _ _ _ h => by cases d <;> exact h) ?_
          have ta := fun W' (h : Ext w1.drew W') => (h.cell (p := ⟨ga, 0, none⟩) (cell_lt hca1)).trans hca1
          iterate 14 (refine plan_take (v := ?_) rfl (by kernel_rfl) ?_ ?_; rotate_left; (focus (intro w' hw'; try go_simp; try with_reducible rfl)); simp only [Act.put, List.setIfInBounds_toArray, List.set_cons_zero, List.set_cons_succ])
          have HAO : Hid (asOK e (some ai) = (e.asid == ai && !e.lf.g)) := Lib.hid rfl
          cases he : (e.asid == ai)
          · rw [he] at HAO
            iterate 5 (refine plan_skip rfl (by kernel_rfl) ?_; simp only [Act.put, List.setIfInBounds_toArray, List.set_cons_zero, List.set_cons_succ])
            iterate 4 (refine plan_take (v := ?_) rfl (by kernel_rfl) ?_ ?_; rotate_left; (focus (intro w' hw'; try go_simp; try with_reducible rfl)); simp only [Act.put, List.setIfInBounds_toArray, List.set_cons_zero, List.set_cons_succ])
            refine plan_end ?_
            clear t0 t1 t8 ta
            go_wp2
            go_ret
            exact ⟨by rw [H.out, HAO.out]; simp [asOK, *], HB1.out.drew⟩
          · rw [he] at HAO
            iterate 9 (refine plan_take (v := ?_) rfl (by kernel_rfl) ?_ ?_; rotate_left; (focus (intro w' hw'; try go_simp; try with_reducible rfl)); simp only [Act.put, List.setIfInBounds_toArray, List.set_cons_zero, List.set_cons_succ])
            refine plan_end ?_
            clear t0 t1 t8 ta
            go_wp2
            go_ret
            exact ⟨by rw [H.out, HAO.out]; simp [asOK, *], HB1.out.drew⟩
end Go.Proofs.Ytecalibnnfcaeaa

/- The reference's Page. -/
namespace Go.Proofs.Ytecalibnnfcaeaa
open Go.RowKit

theorem index_lt (va : Nat) (n : Int) : indexV va n < 512 := by
  unfold indexV
  split
  · exact fieldV_lt va _ 9
  · decide
theorem pg_2 (va : Nat) : indexV va 2 = pgN va 2 := by
  rw [pgN2]
  show va / 2 ^ 30 % 2 ^ 9 = _
  unfold vpnV
  omega
theorem pg_1 (va : Nat) : 512 * indexV va 2 + indexV va 1 = pgN va 1 := by
  rw [pgN1]
  show 512 * (va / 2 ^ 30 % 2 ^ 9) + va / 2 ^ 21 % 2 ^ 9 = _
  unfold vpnV
  omega
theorem pg_0 (va : Nat) : 512 * (512 * indexV va 2 + indexV va 1) + indexV va 0 = pgN va 0 := by
  rw [pgN0]
  show 512 * (512 * (va / 2 ^ 30 % 2 ^ 9) + va / 2 ^ 21 % 2 ^ 9) + va / 2 ^ 12 % 2 ^ 9 = _
  unfold vpnV
  omega
set_option maxHeartbeats 1000000 in
theorem rpage_any (va : Nat) (lev : Int) (W : World) (hv : va < 18446744073709551616) (hl : levOK lev = true) :
    Calls Try.prog 36 #[.int .u64 va, .int .i64 lev] W fun e w' => e = .returned (.int .u64 ((pgN va lev : Nat) : Int)) ∧ Below W.heap.size W w' := by
  rcases lev_cases hl with rfl | rfl | rfl
  · skip
    go_enter Try.func36, Try.ntmps36
    go_wp2_with fail
    refine wp_loop_rounds 4 ?_
    rw [rounds_succ]
    go_wp2_with fail
    refine (rindex_any va 2 _ hv).mono ?_
    rintro e w0 ⟨rfl, hb0⟩
    have HB0 := Lib.hid hb0
    clear hb0
    have hx2 := index_lt va 2
    generalize hi2 : indexV va 2 = x2 at *
    have HI2 := Lib.hid hi2
    clear hi2
    go_wp2_with fail
    rw [rounds_succ]
    go_wp2_with fail
    refine (rindex_any va 1 _ hv).mono ?_
    rintro e w1 ⟨rfl, hb1⟩
    have HB1 := Lib.hid (HB0.out.trans (hb1.mono HB0.out.size))
    clear hb1
    have hx1 := index_lt va 1
    generalize hi1 : indexV va 1 = x1 at *
    have HI1 := Lib.hid hi1
    clear hi1
    go_wp2_with fail
    rw [rounds_succ]
    go_wp2_with fail
    refine (rindex_any va 0 _ hv).mono ?_
    rintro e w2 ⟨rfl, hb2⟩
    have HB2 := Lib.hid (HB1.out.trans (hb2.mono HB1.out.size))
    clear hb2
    have hx0 := index_lt va 0
    generalize hi0 : indexV va 0 = x0 at *
    have HI0 := Lib.hid hi0
    clear hi0
    go_wp2_with fail
    rw [rounds_succ]
    go_wp2
    go_ret
    exact ⟨by rw [← pg_0, HI2.out, HI1.out, HI0.out]; simp, HB2.out⟩
  · skip
    go_enter Try.func36, Try.ntmps36
    go_wp2_with fail
    refine wp_loop_rounds 3 ?_
    rw [rounds_succ]
    go_wp2_with fail
    refine (rindex_any va 2 _ hv).mono ?_
    rintro e w0 ⟨rfl, hb0⟩
    have HB0 := Lib.hid hb0
    clear hb0
    have hx2 := index_lt va 2
    generalize hi2 : indexV va 2 = x2 at *
    have HI2 := Lib.hid hi2
    clear hi2
    go_wp2_with fail
    rw [rounds_succ]
    go_wp2_with fail
    refine (rindex_any va 1 _ hv).mono ?_
    rintro e w1 ⟨rfl, hb1⟩
    have HB1 := Lib.hid (HB0.out.trans (hb1.mono HB0.out.size))
    clear hb1
    have hx1 := index_lt va 1
    generalize hi1 : indexV va 1 = x1 at *
    have HI1 := Lib.hid hi1
    clear hi1
    go_wp2_with fail
    rw [rounds_succ]
    go_wp2
    go_ret
    exact ⟨by rw [← pg_1, HI2.out, HI1.out]; simp, HB1.out⟩
  · skip
    go_enter Try.func36, Try.ntmps36
    go_wp2_with fail
    refine wp_loop_rounds 2 ?_
    rw [rounds_succ]
    go_wp2_with fail
    refine (rindex_any va 2 _ hv).mono ?_
    rintro e w0 ⟨rfl, hb0⟩
    have HB0 := Lib.hid hb0
    clear hb0
    have hx2 := index_lt va 2
    generalize hi2 : indexV va 2 = x2 at *
    have HI2 := Lib.hid hi2
    clear hi2
    go_wp2_with fail
    rw [rounds_succ]
    go_wp2
    go_ret
    exact ⟨by rw [← pg_2, HI2.out]; rfl, HB0.out⟩
end Go.Proofs.Ytecalibnnfcaeaa

/- Buffers in memory; set. -/
namespace Go.Proofs.Ytecalibnnfcaeaa
open Go.RowKit

def waysC : List En → List Value
  | [] => []
  | e :: r => e.vs ++ waysC r
theorem vs_length (e : En) : e.vs.length = 15 := rfl
theorem waysC_length : ∀ l : List En, (waysC l).length = l.length * 15
  | [] => rfl
  | e :: r => by
    show (e.vs ++ waysC r).length = _
    rw [List.length_append, vs_length, waysC_length r, List.length_cons]
    omega
theorem waysC_get : ∀ (l : List En) (k j : Nat) (e : En), l[k]? = some e → j < 15 → (waysC l)[k * 15 + j]? = e.vs[j]?
  | [], k, j, e, h, _ => by simp at h
  | x :: r, 0, j, e, h, hj => by
    simp at h
    subst h
    show (x.vs ++ waysC r)[0 * 15 + j]? = _
    rw [Nat.zero_mul, Nat.zero_add, List.getElem?_append_left (by rw [vs_length]; exact hj)]
  | x :: r, k + 1, j, e, h, hj => by
    show (x.vs ++ waysC r)[(k + 1) * 15 + j]? = _
    rw [List.getElem?_append_right (by rw [vs_length]; omega), vs_length, show (k + 1) * 15 + j - 15 = k * 15 + j by omega]
    exact waysC_get r k j e (by simpa using h) hj
/-- A buffer: its sets' row in block gs, set i's ways in block G i. -/
structure BufAt (w : World) (g gs : Nat) (G : Nat → Nat) (T : List (List En)) (m : Nat) : Prop where
  head : ∃ c, Blk w g 84 #[.slice (some ⟨gs, 0, none⟩) T.length c]
  outer : ∃ cur, Blk w gs 85 cur ∧ ∀ i, i < T.length → cur[i]? = some (.slice (some ⟨G i, 0, none⟩) m m)
  ways : ∀ i, i < T.length → (T.getD i []).length = m
  inner : ∀ i, i < T.length → Blk w (G i) 110 (waysC (T.getD i [])).toArray
  inj : ∀ i j, i < T.length → j < T.length → G i = G j → i = j
/-- The blocks of a buffer. -/
def bufF (g gs : Nat) (G : Nat → Nat) (n : Nat) (k : Nat) : Prop := k = g ∨ k = gs ∨ ∃ i, i < n ∧ k = G i
section
variable {w w' : World} {g gs : Nat} {G : Nat → Nat} {T : List (List En)} {m : Nat}
theorem BufAt.move (h : BufAt w g gs G T m) (hk : ∀ k, k < w.heap.size → bufF g gs G T.length k → w'.heap[k]? = w.heap[k]?) : BufAt w' g gs G T m := by
  obtain ⟨c, hc⟩ := h.head
  obtain ⟨cur, ho, hcur⟩ := h.outer
  exact ⟨⟨c, (hk g hc.lt (.inl rfl)).trans hc⟩, ⟨cur, (hk gs ho.lt (.inr (.inl rfl))).trans ho, hcur⟩, h.ways, fun i hi => (hk (G i) (h.inner i hi).lt (.inr (.inr ⟨i, hi, rfl⟩))).trans (h.inner i hi), h.inj⟩
theorem BufAt.below (h : BufAt w g gs G T m) (hb : Below w.heap.size w w') : BufAt w' g gs G T m := h.move fun k hk _ => hb.block k hk
theorem BufAt.drew (h : BufAt w g gs G T m) : BufAt w.drew g gs G T m := h.move fun _ _ _ => rfl
theorem BufAt.cell (h : BufAt w g gs G T m) {i : Nat} (hi : i < T.length) (k j : Nat) (e : En) (hk : (T.getD i [])[k]? = some e) (hj : j < 15) : w.cell? ⟨G i, k * 15 + j, none⟩ = e.vs[j]? := by
  rw [(h.inner i hi).cell, List.getElem?_toArray, waysC_get _ _ _ _ hk hj]
end
set_option maxHeartbeats 1000000 in
theorem set_any (g gs : Nat) (G : Nat → Nat) (T : List (List En)) (m : Nat) (p : Nat) (W : World) (hp : p < 18446744073709551616) (hn : 0 < T.length) (hn2 : T.length ≤ 64) (hB : BufAt W g gs G T m) :
    Calls Try.prog 83 #[.pointer (some ⟨g, 0, none⟩), .int .u64 p] W fun e w' => e = .returned (.slice (some ⟨G (p % T.length), 0, none⟩) m m) ∧ W.drew = w' := by
  obtain ⟨c, hc⟩ := hB.head
  obtain ⟨cur, ho, hcur⟩ := hB.outer
  have hlt : p % T.length < T.length := Nat.mod_lt _ hn
  have hi := hcur _ hlt
  have HC := Lib.hid hc
  have HO := Lib.hid ho
  have HI := Lib.hid hi
  have hlt2 : p % T.length < 64 := by omega
  generalize hq : p % T.length = q at *
  generalize hn' : T.length = n at *
  have hpq : (p : Int).tmod (n : Int) = (q : Int) := by
    rw [Int.tmod_eq_emod_of_nonneg (by omega), ← hq]
    simp
  have hw : IntKind.u64.wrap (n : Int) = (n : Int) := by rw [IntKind.wrap_u64]; omega
  have hn0 : ¬ (n : Int) = 0 := by omega
  have hn0' : ¬ n = 0 := by omega
  have hql : (q : Int) < (n : Int) := by omega
  clear hc ho hcur hi hB hq hn'
  go_enter Try.func83, Try.ntmps83
  go_wp2_with fail
  have s0 := fun W' (h : Ext W.drew W') => (h.cell (p := ⟨g, 0, none⟩) HC.out.lt).trans (HC.out.cell 0)
  have s1 := fun W' (h : Ext W.drew W') => (h.cell (p := ⟨gs, q, none⟩) HO.out.lt).trans ((HO.out.cell q).trans HI.out)
  simp at s0
  refine wp_region_plan [(0, false), (1, false), (2, false), (3, false), (4, false), (5, false), (6, false), (7, false), (8, false), (9, false), (10, false), (11, false), (12, false), (13, false), (14, false)] (by kernel_rfl) (by kernel_rfl) (fun _ d _ _ _ h => by cases d <;> exact h) ?_
  iterate 15 (refine plan_take (v := ?_) rfl (by kernel_rfl) ?_ ?_; rotate_left; (focus (intro w' hw'; try go_simp; try with_reducible rfl)); simp only [Act.put, List.setIfInBounds_toArray, List.set_cons_zero, List.set_cons_succ])
  refine plan_end ?_
  clear s0 s1
  go_wp2
  go_ret
  exact ⟨rfl, rfl⟩
end Go.Proofs.Ytecalibnnfcaeaa

/- Find. -/
namespace Go.Proofs.Ytecalibnnfcaeaa
open Go.RowKit

/-- The entries of a buffer are of levels that there are. -/
def Valid (T : List (List En)) : Prop := ∀ s ∈ T, ∀ e ∈ s, e.full = true → levOK e.lf.lev = true
def hitB (lev : Int) (va : Nat) (asid : Int) (e : En) : Bool := e.lf.lev == lev && matchB e va asid
def wayFind (l : List En) (lev : Int) (va : Nat) (asid : Int) : Option Tf := (l.find? (hitB lev va asid)).map (·.lf)
def findS (T : List (List En)) (va : Nat) (asid : Int) : Option Tf :=
  (wayFind (T.getD (pgN va 0 % T.length) []) 0 va asid).or ((wayFind (T.getD (pgN va 1 % T.length) []) 1 va asid).or (wayFind (T.getD (pgN va 2 % T.length) []) 2 va asid))
/-- What a look-up answers. -/
def FindR (r : Option Tf) (W : World) (e : Ending) (w' : World) : Prop :=
  e = .returned (.tuple #[(r.getD tlb_lf0).val, .bool r.isSome]) ∧ Below W.heap.size W w'
theorem tlb_find_step {l : List En} {k : Nat} {x : En} {p : En → Bool} (hx : l[k]? = some x) (h : ∀ y ∈ l.take k, p y = false) (hp : p x = true) : l.find? p = some x := by
  have e : l = l.take k ++ x :: l.drop (k + 1) := by
    have hk : k < l.length := by
      rcases Nat.lt_or_ge k l.length with h1 | h1
      · exact h1
      · rw [List.getElem?_eq_none h1] at hx; cases hx
    rw [List.getElem?_eq_getElem hk] at hx
    injection hx with hx
    rw [← hx, List.getElem_cons_drop, List.take_append_drop]
  rw [e, List.find?_append, List.find?_eq_none.2 (fun y hy => by rw [h y hy]; decide), Option.none_or, List.find?_cons, hp]
theorem find_none {l : List En} {k : Nat} {p : En → Bool} (hk : l.length ≤ k) (h : ∀ y ∈ l.take k, p y = false) : l.find? p = none := by
  rw [List.take_of_length_le hk] at h
  exact List.find?_eq_none.2 fun y hy => by rw [h y hy]; decide
theorem take_more {l : List En} {k : Nat} {x : En} {p : En → Bool} (hx : l[k]? = some x) (h : ∀ y ∈ l.take k, p y = false) (hp : p x = false) : ∀ y ∈ l.take (k + 1), p y = false := by
  intro y hy
  rw [List.take_add_one, hx] at hy
  rcases List.mem_append.1 hy with hy | hy
  · exact h y hy
  · simp at hy; rw [hy]; exact hp
theorem find_hit {T : List (List En)} {va : Nat} {asid : Int} {l : Nat} {x : Tf} (hl : l < 3) (h : ∀ l' : Nat, l' < l → wayFind (T.getD (pgN va l' % T.length) []) l' va asid = none) (hx : wayFind (T.getD (pgN va l % T.length) []) l va asid = some x) : findS T va asid = some x := by
  unfold findS
  rcases (show l = 0 ∨ l = 1 ∨ l = 2 by omega) with rfl | rfl | rfl
  · have e0 : wayFind (T.getD (pgN va 0 % T.length) []) 0 va asid = some x := hx
    rw [e0, Option.some_or]
  · have e0 : wayFind (T.getD (pgN va 0 % T.length) []) 0 va asid = none := h 0 (by omega)
    have e1 : wayFind (T.getD (pgN va 1 % T.length) []) 1 va asid = some x := hx
    rw [e0, Option.none_or, e1, Option.some_or]
  · have e0 : wayFind (T.getD (pgN va 0 % T.length) []) 0 va asid = none := h 0 (by omega)
    have e1 : wayFind (T.getD (pgN va 1 % T.length) []) 1 va asid = none := h 1 (by omega)
    have e2 : wayFind (T.getD (pgN va 2 % T.length) []) 2 va asid = some x := hx
    rw [e0, Option.none_or, e1, Option.none_or, e2]
theorem find_all {T : List (List En)} {va : Nat} {asid : Int} (h : ∀ l' : Nat, l' < 3 → wayFind (T.getD (pgN va l' % T.length) []) l' va asid = none) : findS T va asid = none := by
  unfold findS
  have e0 : wayFind (T.getD (pgN va 0 % T.length) []) 0 va asid = none := h 0 (by omega)
  have e1 : wayFind (T.getD (pgN va 1 % T.length) []) 1 va asid = none := h 1 (by omega)
  have e2 : wayFind (T.getD (pgN va 2 % T.length) []) 2 va asid = none := h 2 (by omega)
  rw [e0, Option.none_or, e1, Option.none_or, e2]
def ORel (W : World) (g gs : Nat) (G : Nat → Nat) (T : List (List En)) (m va : Nat) (asid : Int) (l : Nat) (wr : World) : Prop :=
  BufAt wr g gs G T m ∧ Blk wr W.heap.size 97 #[.bool false, .bool false, .bool false, .bool false, .bool false, .bool false, .bool false, .bool false, .int .i64 0, .int .u64 0, .int .i64 0, .int .u64 0] ∧ Below W.heap.size W wr ∧ ∀ l' : Nat, l' < l → wayFind (T.getD (pgN va l' % T.length) []) l' va asid = none
def FRel (b : Nat) (w : World) (l : List En) (lev : Int) (va : Nat) (asid : Int) (k : Nat) (wr : World) : Prop := Below w.heap.size w wr ∧ ∀ y ∈ l.take k, hitB lev va asid y = false
set_option maxHeartbeats 4000000 in
theorem tlb_find_any (g gs : Nat) (G : Nat → Nat) (T : List (List En)) (m : Nat) (va : Nat) (asid : Int) (W : World) (hv : va < 18446744073709551616) (hn : 0 < T.length) (hn2 : T.length ≤ 64) (hm : m ≤ 8) (hB : BufAt W g gs G T m) (hval : Valid T) :
    Calls Try.prog 73 #[.pointer (some ⟨g, 0, none⟩), .int .u64 va, .int .i64 asid] W (FindR (findS T va asid) W) := by
  have hc := (Below.refl W.heap.size W).alloc (Nat.le_refl _) (.cells #[.bool false, .bool false, .bool false, .bool false, .bool false, .bool false, .bool false, .bool false, .int .i64 0, .int .u64 0, .int .i64 0, .int .u64 0] 97)
  have hX : Blk (W.alloc (.cells #[.bool false, .bool false, .bool false, .bool false, .bool false, .bool false, .bool false, .bool false, .int .i64 0, .int .u64 0, .int .i64 0, .int .u64 0] 97)) W.heap.size 97 #[.bool false, .bool false, .bool false, .bool false, .bool false, .bool false, .bool false, .bool false, .int .i64 0, .int .u64 0, .int .i64 0, .int .u64 0] := Blkf.new_at _ _ _ _ rfl
  have HB0 := Lib.hid (hB.below hc)
  have HC0 := Lib.hid hc
  have HX0 := Lib.hid hX
  clear hc hX hB
  go_enter Try.func73, Try.ntmps73
  go_wp2_with fail
  generalize W.alloc (.cells #[.bool false, .bool false, .bool false, .bool false, .bool false, .bool false, .bool false, .bool false, .int .i64 0, .int .u64 0, .int .i64 0, .int .u64 0] 97) = W0 at *
  go_loopw [14] (fun i wr => ∃ l : Nat, l ≤ 3 ∧ i = .int .i64 l ∧ ORel W g gs G T m va asid l wr) (fun i _ => 3 - (intOf i).toNat)
  case atStart => exact ⟨0, by omega, rfl, HB0.out, HX0.out, HC0.out, fun l hl => absurd hl (by omega)⟩
  case round =>
    obtain ⟨l, hl, rfl, hB, hX, hC, hN⟩ := hrel
    have HB1 := Lib.hid hB
    have HX1 := Lib.hid hX
    have HC1 := Lib.hid hC
    have HN1 := Lib.hid hN
    clear hB hX hC hN
    by_cases hl3 : l < 3
    · have hlo : levOK (l : Int) = true := by unfold levOK; rw [decide_eq_true (by omega), decide_eq_true (by omega)]; rfl
      go_wp2_with fail
      refine (tlb_page_any va (l : Int) _ hv hlo).mono ?_
      rintro e w ⟨rfl, rfl⟩
      go_wp2_with fail
      refine (set_any g gs G T m (pgN va l) _ (Nat.lt_trans (pgN_lt va l) (by decide)) hn hn2 HB1.out).mono ?_
      rintro e w ⟨rfl, rfl⟩
      obtain ⟨q, hq⟩ : ∃ q, q = pgN va l % T.length := ⟨_, rfl⟩
      have hql : q < T.length := by rw [hq]; exact Nat.mod_lt _ hn
      rw [← hq]
      have HQ := Lib.hid hq
      have HQL := Lib.hid hql
      clear hq hql
      have HX2 := Lib.hid HX1.out.drew
      have HB2 := Lib.hid HB1.out.drew
      have HC2 := Lib.hid HC1.out.drew
      rename World => w1
      generalize w1.drew = w2 at *
      go_wp2_with fail
      go_loopw [23] (fun i wr => ∃ k : Nat, k ≤ m ∧ i = .int .i64 k ∧ FRel W.heap.size w2 (T.getD q []) l va asid k wr) (fun i _ => m - (intOf i).toNat)
      case atStart => exact ⟨0, by omega, rfl, Below.refl _ _, fun y hy => by simp at hy⟩
      case round =>
        obtain ⟨k, hk, rfl, hbel, hno⟩ := hrel
        have HBE := Lib.hid hbel
        have HNO := Lib.hid hno
        clear hbel hno
        have HBW := Lib.hid (HB2.out.below HBE.out)
        have HXW := Lib.hid (HX2.out.below HBE.out HX2.out.lt)
        have HCW := Lib.hid (HC2.out.trans (HBE.out.mono HC2.out.size))
        by_cases hkl : k < m
        · obtain ⟨e, he⟩ : ∃ e, (T.getD q [])[k]? = some e := by
            have := HB2.out.ways q HQL.out
            exact ⟨_, List.getElem?_eq_getElem (by omega)⟩
          have HE := Lib.hid he
          have hlv : e.full = true → levOK e.lf.lev = true := by
            have hmem : (T.getD q []) ∈ T := by rw [List.getD_eq_getElem?_getD, List.getElem?_eq_getElem HQL.out]; exact List.getElem_mem _
            exact hval _ hmem e (List.mem_of_getElem? he)
          have HLV := Lib.hid hlv
          clear he hlv
          have c0 := HBW.out.cell HQL.out k 0 e HE.out (by decide)
          have c1 := HBW.out.cell HQL.out k 1 e HE.out (by decide)
          have c2 := HBW.out.cell HQL.out k 2 e HE.out (by decide)
          have c3 := HBW.out.cell HQL.out k 3 e HE.out (by decide)
          have c4 := HBW.out.cell HQL.out k 4 e HE.out (by decide)
          have c5 := HBW.out.cell HQL.out k 5 e HE.out (by decide)
          have c6 := HBW.out.cell HQL.out k 6 e HE.out (by decide)
          have c7 := HBW.out.cell HQL.out k 7 e HE.out (by decide)
          have c8 := HBW.out.cell HQL.out k 8 e HE.out (by decide)
          have c9 := HBW.out.cell HQL.out k 9 e HE.out (by decide)
          have c10 := HBW.out.cell HQL.out k 10 e HE.out (by decide)
          have c11 := HBW.out.cell HQL.out k 11 e HE.out (by decide)
          have c12 := HBW.out.cell HQL.out k 12 e HE.out (by decide)
          have c13 := HBW.out.cell HQL.out k 13 e HE.out (by decide)
          have c14 := HBW.out.cell HQL.out k 14 e HE.out (by decide)
          simp [En.vs] at c0 c1 c2 c3 c4 c5 c6 c7 c8 c9 c10 c11 c12 c13 c14
          have hal := (Below.refl wr.heap.size wr).alloc (Nat.le_refl _) (.cells #[.bool e.full, .int .i64 e.asid, .int .u64 e.page, .bool e.lf.v, .bool e.lf.r, .bool e.lf.w, .bool e.lf.x, .bool e.lf.u, .bool e.lf.g, .bool e.lf.a, .bool e.lf.d, .int .i64 e.lf.rsw, .int .u64 e.lf.ppn, .int .i64 e.lf.lev, .int .u64 e.lf.pos] 110)
          have HAL := Lib.hid hal
          clear hal
          cases hlev : (e.lf.lev == (l : Int))
          · have hhit : hitB l va asid e = false := by unfold hitB; rw [hlev]; rfl
            have HHIT := Lib.hid hhit
            clear hhit
            go_wp2_with fail
            exact ⟨⟨k + 1, hkl, by go_num, HBE.out.trans (HAL.out.mono HBE.out.size), take_more HE.out HNO.out HHIT.out⟩, by simp [intOf]; omega⟩
          · go_wp2_with fail
            refine (matches_any e va asid _ hv HLV.out).mono ?_
            rintro r w ⟨rfl, hb⟩
            have hY0 : Blk (wr.alloc (.cells #[.bool e.full, .int .i64 e.asid, .int .u64 e.page, .bool e.lf.v, .bool e.lf.r, .bool e.lf.w, .bool e.lf.x, .bool e.lf.u, .bool e.lf.g, .bool e.lf.a, .bool e.lf.d, .int .i64 e.lf.rsw, .int .u64 e.lf.ppn, .int .i64 e.lf.lev, .int .u64 e.lf.pos] 110)) wr.heap.size 110 #[.bool e.full, .int .i64 e.asid, .int .u64 e.page, .bool e.lf.v, .bool e.lf.r, .bool e.lf.w, .bool e.lf.x, .bool e.lf.u, .bool e.lf.g, .bool e.lf.a, .bool e.lf.d, .int .i64 e.lf.rsw, .int .u64 e.lf.ppn, .int .i64 e.lf.lev, .int .u64 e.lf.pos] := Blkf.new_at _ _ _ _ rfl
            have hY := hY0.below hb hY0.lt
            have hbb : Below wr.heap.size wr w := HAL.out.trans (hb.mono HAL.out.size)
            have hXX := HXW.out.below hbb HXW.out.lt
            have HBB := Lib.hid hbb
            have HYY := Lib.hid hY
            have HXX := Lib.hid hXX
            clear hY0 hY hbb hXX hb c0 c1 c2 c3 c4 c5 c6 c7 c8 c9 c10 c11 c12 c13 c14
            cases hmt : matchB e va asid
            · have hhit : hitB l va asid e = false := by unfold hitB; rw [hmt, Bool.and_false]
              have HHIT := Lib.hid hhit
              clear hhit hmt
              go_wp2_with fail
              exact ⟨⟨k + 1, hkl, by go_num, HBE.out.trans (HBB.out.mono HBE.out.size), take_more HE.out HNO.out HHIT.out⟩, by simp [intOf]; omega⟩
            · have hhit : hitB l va asid e = true := by unfold hitB; rw [hmt, hlev]; rfl
              have hfnd : wayFind (T.getD q []) l va asid = some e.lf := by unfold wayFind; rw [tlb_find_step HE.out HNO.out hhit]; rfl
              have HFND := Lib.hid (find_hit hl3 HN1.out (HQ.out ▸ hfnd))
              clear hhit hmt hfnd hlev
              have y0 := HYY.out.cell 0
              have y1 := HYY.out.cell 1
              have y2 := HYY.out.cell 2
              have y3 := HYY.out.cell 3
              have y4 := HYY.out.cell 4
              have y5 := HYY.out.cell 5
              have y6 := HYY.out.cell 6
              have y7 := HYY.out.cell 7
              have y8 := HYY.out.cell 8
              have y9 := HYY.out.cell 9
              have y10 := HYY.out.cell 10
              have y11 := HYY.out.cell 11
              have y12 := HYY.out.cell 12
              have y13 := HYY.out.cell 13
              have y14 := HYY.out.cell 14
              have x0 := HXX.out.cell 0
              have x1 := HXX.out.cell 1
              have x2 := HXX.out.cell 2
              have x3 := HXX.out.cell 3
              have x4 := HXX.out.cell 4
              have x5 := HXX.out.cell 5
              have x6 := HXX.out.cell 6
              have x7 := HXX.out.cell 7
              have x8 := HXX.out.cell 8
              have x9 := HXX.out.cell 9
              have x10 := HXX.out.cell 10
              have x11 := HXX.out.cell 11
              have yl := HYY.out.lt
              have xl := HXX.out.lt
              have xf := fun i => HXX.out.frozen i
              simp at y0 y1 y2 y3 y4 y5 y6 y7 y8 y9 y10 y11 y12 y13 y14 x0 x1 x2 x3 x4 x5 x6 x7 x8 x9 x10 x11
              go_wp2
              have hZ := ((((((((((((HXX.out.set_ 0 (.bool e.lf.v)).set_ 1 (.bool e.lf.r)).set_ 2 (.bool e.lf.w)).set_ 3 (.bool e.lf.x)).set_ 4 (.bool e.lf.u)).set_ 5 (.bool e.lf.g)).set_ 6 (.bool e.lf.a)).set_ 7 (.bool e.lf.d)).set_ 8 (.int .i64 e.lf.rsw)).set_ 9 (.int .u64 e.lf.ppn)).set_ 10 (.int .i64 e.lf.lev)).set_ 11 (.int .u64 e.lf.pos))
              have hW := (((((((((((((HCW.out.trans (HBB.out.mono HCW.out.size)).setCell (p := ⟨W.heap.size, 0, none⟩) (Nat.le_refl _) (.bool e.lf.v)).setCell (p := ⟨W.heap.size, 1, none⟩) (Nat.le_refl _) (.bool e.lf.r)).setCell (p := ⟨W.heap.size, 2, none⟩) (Nat.le_refl _) (.bool e.lf.w)).setCell (p := ⟨W.heap.size, 3, none⟩) (Nat.le_refl _) (.bool e.lf.x)).setCell (p := ⟨W.heap.size, 4, none⟩) (Nat.le_refl _) (.bool e.lf.u)).setCell (p := ⟨W.heap.size, 5, none⟩) (Nat.le_refl _) (.bool e.lf.g)).setCell (p := ⟨W.heap.size, 6, none⟩) (Nat.le_refl _) (.bool e.lf.a)).setCell (p := ⟨W.heap.size, 7, none⟩) (Nat.le_refl _) (.bool e.lf.d)).setCell (p := ⟨W.heap.size, 8, none⟩) (Nat.le_refl _) (.int .i64 e.lf.rsw)).setCell (p := ⟨W.heap.size, 9, none⟩) (Nat.le_refl _) (.int .u64 e.lf.ppn)).setCell (p := ⟨W.heap.size, 10, none⟩) (Nat.le_refl _) (.int .i64 e.lf.lev)).setCell (p := ⟨W.heap.size, 11, none⟩) (Nat.le_refl _) (.int .u64 e.lf.pos))
              have q0_ := hZ.cell 0
              have q1_ := hZ.cell 1
              have q2_ := hZ.cell 2
              have q3_ := hZ.cell 3
              have q4_ := hZ.cell 4
              have q5_ := hZ.cell 5
              have q6_ := hZ.cell 6
              have q7_ := hZ.cell 7
              have q8_ := hZ.cell 8
              have q9_ := hZ.cell 9
              have q10_ := hZ.cell 10
              have q11_ := hZ.cell 11
              refine bodyPost_ret (v := .tuple #[.agg #[.bool e.lf.v, .bool e.lf.r, .bool e.lf.w, .bool e.lf.x, .bool e.lf.u, .bool e.lf.g, .bool e.lf.a, .bool e.lf.d, .int .i64 e.lf.rsw, .int .u64 e.lf.ppn, .int .i64 e.lf.lev, .int .u64 e.lf.pos], .bool true]) (by simp [results, Try.results73, go_sem, q0_, q1_, q2_, q3_, q4_, q5_, q6_, q7_, q8_, q9_, q10_, q11_]) rfl ?_
              unfold FindR
              rw [HFND.out]
              exact ⟨rfl, hW⟩
        · obtain rfl : m = k := by omega
          have hnn : wayFind (T.getD q []) l va asid = none := by unfold wayFind; rw [find_none (by rw [HB2.out.ways q HQL.out]; exact Nat.le_refl _) HNO.out]; rfl
          have HNN : Hid (∀ l' : Nat, l' < l + 1 → wayFind (T.getD (pgN va l' % T.length) []) l' va asid = none) := Lib.hid (fun l' hl' => by
            rcases (show l' < l ∨ l' = l by omega) with h | h
            · exact HN1.out l' h
            · rw [h, ← HQ.out]; exact hnn)
          clear hnn
          go_wp2_with fail
          exact ⟨⟨l + 1, by omega, by go_num, HBW.out, HXW.out, HCW.out, HNN.out⟩, by simp [intOf]; omega⟩
    · obtain rfl : l = 3 := by omega
      have HFND := Lib.hid (find_all HN1.out)
      have x0 := HX1.out.cell 0
      have x1 := HX1.out.cell 1
      have x2 := HX1.out.cell 2
      have x3 := HX1.out.cell 3
      have x4 := HX1.out.cell 4
      have x5 := HX1.out.cell 5
      have x6 := HX1.out.cell 6
      have x7 := HX1.out.cell 7
      have x8 := HX1.out.cell 8
      have x9 := HX1.out.cell 9
      have x10 := HX1.out.cell 10
      have x11 := HX1.out.cell 11
      have xl := HX1.out.lt
      have xf := fun i => HX1.out.frozen i
      simp at x0 x1 x2 x3 x4 x5 x6 x7 x8 x9 x10 x11
      go_wp2
      have hZ := ((((((((((((HX1.out.set_ 0 (.bool false)).set_ 1 (.bool false)).set_ 2 (.bool false)).set_ 3 (.bool false)).set_ 4 (.bool false)).set_ 5 (.bool false)).set_ 6 (.bool false)).set_ 7 (.bool false)).set_ 8 (.int .i64 0)).set_ 9 (.int .u64 0)).set_ 10 (.int .i64 0)).set_ 11 (.int .u64 0))
      have hW := ((((((((((((HC1.out.setCell (p := ⟨W.heap.size, 0, none⟩) (Nat.le_refl _) (.bool false)).setCell (p := ⟨W.heap.size, 1, none⟩) (Nat.le_refl _) (.bool false)).setCell (p := ⟨W.heap.size, 2, none⟩) (Nat.le_refl _) (.bool false)).setCell (p := ⟨W.heap.size, 3, none⟩) (Nat.le_refl _) (.bool false)).setCell (p := ⟨W.heap.size, 4, none⟩) (Nat.le_refl _) (.bool false)).setCell (p := ⟨W.heap.size, 5, none⟩) (Nat.le_refl _) (.bool false)).setCell (p := ⟨W.heap.size, 6, none⟩) (Nat.le_refl _) (.bool false)).setCell (p := ⟨W.heap.size, 7, none⟩) (Nat.le_refl _) (.bool false)).setCell (p := ⟨W.heap.size, 8, none⟩) (Nat.le_refl _) (.int .i64 0)).setCell (p := ⟨W.heap.size, 9, none⟩) (Nat.le_refl _) (.int .u64 0)).setCell (p := ⟨W.heap.size, 10, none⟩) (Nat.le_refl _) (.int .i64 0)).setCell (p := ⟨W.heap.size, 11, none⟩) (Nat.le_refl _) (.int .u64 0))
      have q0_ := hZ.cell 0
      have q1_ := hZ.cell 1
      have q2_ := hZ.cell 2
      have q3_ := hZ.cell 3
      have q4_ := hZ.cell 4
      have q5_ := hZ.cell 5
      have q6_ := hZ.cell 6
      have q7_ := hZ.cell 7
      have q8_ := hZ.cell 8
      have q9_ := hZ.cell 9
      have q10_ := hZ.cell 10
      have q11_ := hZ.cell 11
      refine bodyPost_ret (v := .tuple #[.agg #[.bool false, .bool false, .bool false, .bool false, .bool false, .bool false, .bool false, .bool false, .int .i64 0, .int .u64 0, .int .i64 0, .int .u64 0], .bool false]) (by simp [results, Try.results73, go_sem, q0_, q1_, q2_, q3_, q4_, q5_, q6_, q7_, q8_, q9_, q10_, q11_]) rfl ?_
      unfold FindR
      rw [HFND.out]
      exact ⟨rfl, hW⟩
end Go.Proofs.Ytecalibnnfcaeaa
