/- ClocksOrder: clocks are never ahead of themselves, never both ways, and of a third one's too. No condition. -/
import Derived.Test.YtocjapnagggapaaDoorClkO
namespace Go.Proofs.YtocjapnagggapaaDoor
open Go.RowKit Go.ChangeShapes

def StO (W : World) (b0 b1 b2 : Nat) (f g k : Nat → Int) (w : World) : Prop := Blk w b0 26 (fiC 16 f) ∧ Blk w b1 26 (fiC 16 g) ∧ Blk w b2 26 (fiC 16 k) ∧ Below W.heap.size W w
theorem st_step {W w w' : World} {b0 b1 b2 : Nat} {f g k : Nat → Int} (h : StO W b0 b1 b2 f g k w) (hb : Ext w w') : StO W b0 b1 b2 f g k w' :=
  ⟨Blkf.below h.1 hb h.1.lt, Blkf.below h.2.1 hb h.2.1.lt, Blkf.below h.2.2.1 hb h.2.2.1.lt, Ext.trans h.2.2.2 hb⟩
def lF (l : List Int) (i : Nat) : Int := l.getD i 0
theorem lF_wf (l : List Int) (h : ∀ x ∈ l, (Lit.int .i64 x).wf = true) : ∀ i, i < 16 → (Lit.int .i64 (lF l i)).wf = true := fun i _ => by
  unfold lF
  rw [List.getD_eq_getElem?_getD]
  cases hx : l[i]? with
  | none => rfl
  | some x => exact h x (List.mem_of_getElem? hx)
set_option maxRecDepth 100000 in
set_option maxHeartbeats 4000000 in
theorem order_walk (f g k : Nat → Int) (W : World) (hT : Tab W) (hf : ∀ i, i < 16 → (Lit.int .i64 (f i)).wf = true) (hg : ∀ i, i < 16 → (Lit.int .i64 (g i)).wf = true) (hk : ∀ i, i < 16 → (Lit.int .i64 (k i)).wf = true) :
    Calls Tryd.prog 4 #[.agg (fiC 16 f), .agg (fiC 16 g), .agg (fiC 16 k)] W fun e w' => e = .returned (.bool true) ∧ Below W.heap.size W w' := by
  have H0 : Hid (StO W W.heap.size (W.heap.size + 1) (W.heap.size + 1 + 1) f g k (((W.alloc (.cells (fiC 16 f) 26)).alloc (.cells (fiC 16 g) 26)).alloc (.cells (fiC 16 k) 26))) := Lib.hid
    ⟨((Blkf.new_at _ _ _ _ rfl : Blk (W.alloc (.cells (fiC 16 f) 26)) W.heap.size 26 (fiC 16 f)).alloc _).alloc _, (Blkf.new_at _ _ _ _ (by simp) : Blk ((W.alloc (.cells (fiC 16 f) 26)).alloc (.cells (fiC 16 g) 26)) (W.heap.size + 1) 26 (fiC 16 g)).alloc _, Blkf.new_at _ _ _ _ (by simp),
      (((Below.refl _ _).alloc (Nat.le_refl _) _).alloc (by simp) _).alloc (by simp; omega) _⟩
  have HT := Lib.hid hT
  clear hT
  go_enter Tryd.func4, Tryd.ntmps4
  go_wp2_with fail
  generalize ((W.alloc (.cells (fiC 16 f) 26)).alloc (.cells (fiC 16 g) 26)).alloc (.cells (fiC 16 k) 26) = w1 at *
  refine (first_any w1 (HT.out.below H0.out.2.2.2)).mono ?_
  rintro e v0 ⟨rfl, hv0⟩
  have HS := Lib.hid (st_step H0.out hv0)
  clear hv0 H0
  have ra := HS.out.1.range
  have rb := HS.out.2.1.range
  have rc := HS.out.2.2.1.range
  go_wp2_with (first | ((with_reducible refine wl_load 26 (.tmp 3) rfl ?_ (World.heap W).size 0 (fiC 16 f) ?_ ra ?_ ?_); exact rfl; exact rfl; exact fiC_row f) | ((with_reducible refine wl_load 26 (.tmp 4) rfl ?_ ((World.heap W).size + 1) 0 (fiC 16 g) ?_ rb ?_ ?_); exact rfl; exact rfl; exact fiC_row g) | ((with_reducible refine wl_load 26 (.tmp 5) rfl ?_ ((World.heap W).size + 1 + 1) 0 (fiC 16 k) ?_ rc ?_ ?_); exact rfl; exact rfl; exact fiC_row k))
  clear ra rb rc
  refine (ahead_any f f _ hf hf).mono ?_
  rintro e v1 ⟨rfl, hb1⟩
  have HN1 := Lib.hid (st_step HS.out hb1)
  clear HS hb1
  have HS := HN1
  clear HN1
  rw [ahead_irr f]
  cases hab : aheadB f g with
  | false =>
    have ra := HS.out.1.range
    have rb := HS.out.2.1.range
    have rc := HS.out.2.2.1.range
    go_wp2_with (first | ((with_reducible refine wl_load 26 (.tmp 3) rfl ?_ (World.heap W).size 0 (fiC 16 f) ?_ ra ?_ ?_); exact rfl; exact rfl; exact fiC_row f) | ((with_reducible refine wl_load 26 (.tmp 4) rfl ?_ ((World.heap W).size + 1) 0 (fiC 16 g) ?_ rb ?_ ?_); exact rfl; exact rfl; exact fiC_row g) | ((with_reducible refine wl_load 26 (.tmp 5) rfl ?_ ((World.heap W).size + 1 + 1) 0 (fiC 16 k) ?_ rc ?_ ?_); exact rfl; exact rfl; exact fiC_row k))
    clear ra rb rc
    refine (ahead_any f g _ hf hg).mono ?_
    rintro e v2 ⟨rfl, hb2⟩
    have HN2 := Lib.hid (st_step HS.out hb2)
    clear HS hb2
    have HS := HN2
    clear HN2
    rw [hab]
    have ra := HS.out.1.range
    have rb := HS.out.2.1.range
    have rc := HS.out.2.2.1.range
    go_wp2_with (first | ((with_reducible refine wl_load 26 (.tmp 3) rfl ?_ (World.heap W).size 0 (fiC 16 f) ?_ ra ?_ ?_); exact rfl; exact rfl; exact fiC_row f) | ((with_reducible refine wl_load 26 (.tmp 4) rfl ?_ ((World.heap W).size + 1) 0 (fiC 16 g) ?_ rb ?_ ?_); exact rfl; exact rfl; exact fiC_row g) | ((with_reducible refine wl_load 26 (.tmp 5) rfl ?_ ((World.heap W).size + 1 + 1) 0 (fiC 16 k) ?_ rc ?_ ?_); exact rfl; exact rfl; exact fiC_row k))
    clear ra rb rc
    refine (ahead_any f g _ hf hg).mono ?_
    rintro e v3 ⟨rfl, hb3⟩
    have HN3 := Lib.hid (st_step HS.out hb3)
    clear HS hb3
    have HS := HN3
    clear HN3
    rw [hab]
    go_wp2_with fail
    go_ret
    exact ⟨rfl, HS.out.2.2.2⟩
  | true =>
    have hba := ahead_asym f g hab
    have ra := HS.out.1.range
    have rb := HS.out.2.1.range
    have rc := HS.out.2.2.1.range
    go_wp2_with (first | ((with_reducible refine wl_load 26 (.tmp 3) rfl ?_ (World.heap W).size 0 (fiC 16 f) ?_ ra ?_ ?_); exact rfl; exact rfl; exact fiC_row f) | ((with_reducible refine wl_load 26 (.tmp 4) rfl ?_ ((World.heap W).size + 1) 0 (fiC 16 g) ?_ rb ?_ ?_); exact rfl; exact rfl; exact fiC_row g) | ((with_reducible refine wl_load 26 (.tmp 5) rfl ?_ ((World.heap W).size + 1 + 1) 0 (fiC 16 k) ?_ rc ?_ ?_); exact rfl; exact rfl; exact fiC_row k))
    clear ra rb rc
    refine (ahead_any f g _ hf hg).mono ?_
    rintro e v4 ⟨rfl, hb4⟩
    have HN4 := Lib.hid (st_step HS.out hb4)
    clear HS hb4
    have HS := HN4
    clear HN4
    rw [hab]
    have ra := HS.out.1.range
    have rb := HS.out.2.1.range
    have rc := HS.out.2.2.1.range
    go_wp2_with (first | ((with_reducible refine wl_load 26 (.tmp 3) rfl ?_ (World.heap W).size 0 (fiC 16 f) ?_ ra ?_ ?_); exact rfl; exact rfl; exact fiC_row f) | ((with_reducible refine wl_load 26 (.tmp 4) rfl ?_ ((World.heap W).size + 1) 0 (fiC 16 g) ?_ rb ?_ ?_); exact rfl; exact rfl; exact fiC_row g) | ((with_reducible refine wl_load 26 (.tmp 5) rfl ?_ ((World.heap W).size + 1 + 1) 0 (fiC 16 k) ?_ rc ?_ ?_); exact rfl; exact rfl; exact fiC_row k))
    clear ra rb rc
    refine (ahead_any g f _ hg hf).mono ?_
    rintro e v5 ⟨rfl, hb5⟩
    have HN5 := Lib.hid (st_step HS.out hb5)
    clear HS hb5
    have HS := HN5
    clear HN5
    rw [hba]
    have ra := HS.out.1.range
    have rb := HS.out.2.1.range
    have rc := HS.out.2.2.1.range
    go_wp2_with (first | ((with_reducible refine wl_load 26 (.tmp 3) rfl ?_ (World.heap W).size 0 (fiC 16 f) ?_ ra ?_ ?_); exact rfl; exact rfl; exact fiC_row f) | ((with_reducible refine wl_load 26 (.tmp 4) rfl ?_ ((World.heap W).size + 1) 0 (fiC 16 g) ?_ rb ?_ ?_); exact rfl; exact rfl; exact fiC_row g) | ((with_reducible refine wl_load 26 (.tmp 5) rfl ?_ ((World.heap W).size + 1 + 1) 0 (fiC 16 k) ?_ rc ?_ ?_); exact rfl; exact rfl; exact fiC_row k))
    clear ra rb rc
    refine (ahead_any f g _ hf hg).mono ?_
    rintro e v6 ⟨rfl, hb6⟩
    have HN6 := Lib.hid (st_step HS.out hb6)
    clear HS hb6
    have HS := HN6
    clear HN6
    rw [hab]
    cases hbc : aheadB g k with
    | false =>
      have ra := HS.out.1.range
      have rb := HS.out.2.1.range
      have rc := HS.out.2.2.1.range
      go_wp2_with (first | ((with_reducible refine wl_load 26 (.tmp 3) rfl ?_ (World.heap W).size 0 (fiC 16 f) ?_ ra ?_ ?_); exact rfl; exact rfl; exact fiC_row f) | ((with_reducible refine wl_load 26 (.tmp 4) rfl ?_ ((World.heap W).size + 1) 0 (fiC 16 g) ?_ rb ?_ ?_); exact rfl; exact rfl; exact fiC_row g) | ((with_reducible refine wl_load 26 (.tmp 5) rfl ?_ ((World.heap W).size + 1 + 1) 0 (fiC 16 k) ?_ rc ?_ ?_); exact rfl; exact rfl; exact fiC_row k))
      clear ra rb rc
      refine (ahead_any g k _ hg hk).mono ?_
      rintro e v7 ⟨rfl, hb7⟩
      have HN7 := Lib.hid (st_step HS.out hb7)
      clear HS hb7
      have HS := HN7
      clear HN7
      rw [hbc]
      go_wp2_with fail
      go_ret
      exact ⟨rfl, HS.out.2.2.2⟩
    | true =>
      have hac := ahead_trans f g k hab hbc
      have ra := HS.out.1.range
      have rb := HS.out.2.1.range
      have rc := HS.out.2.2.1.range
      go_wp2_with (first | ((with_reducible refine wl_load 26 (.tmp 3) rfl ?_ (World.heap W).size 0 (fiC 16 f) ?_ ra ?_ ?_); exact rfl; exact rfl; exact fiC_row f) | ((with_reducible refine wl_load 26 (.tmp 4) rfl ?_ ((World.heap W).size + 1) 0 (fiC 16 g) ?_ rb ?_ ?_); exact rfl; exact rfl; exact fiC_row g) | ((with_reducible refine wl_load 26 (.tmp 5) rfl ?_ ((World.heap W).size + 1 + 1) 0 (fiC 16 k) ?_ rc ?_ ?_); exact rfl; exact rfl; exact fiC_row k))
      clear ra rb rc
      refine (ahead_any g k _ hg hk).mono ?_
      rintro e v8 ⟨rfl, hb8⟩
      have HN8 := Lib.hid (st_step HS.out hb8)
      clear HS hb8
      have HS := HN8
      clear HN8
      rw [hbc]
      have ra := HS.out.1.range
      have rb := HS.out.2.1.range
      have rc := HS.out.2.2.1.range
      go_wp2_with (first | ((with_reducible refine wl_load 26 (.tmp 3) rfl ?_ (World.heap W).size 0 (fiC 16 f) ?_ ra ?_ ?_); exact rfl; exact rfl; exact fiC_row f) | ((with_reducible refine wl_load 26 (.tmp 4) rfl ?_ ((World.heap W).size + 1) 0 (fiC 16 g) ?_ rb ?_ ?_); exact rfl; exact rfl; exact fiC_row g) | ((with_reducible refine wl_load 26 (.tmp 5) rfl ?_ ((World.heap W).size + 1 + 1) 0 (fiC 16 k) ?_ rc ?_ ?_); exact rfl; exact rfl; exact fiC_row k))
      clear ra rb rc
      refine (ahead_any f k _ hf hk).mono ?_
      rintro e v9 ⟨rfl, hb9⟩
      have HN9 := Lib.hid (st_step HS.out hb9)
      clear HS hb9
      have HS := HN9
      clear HN9
      rw [hac]
      go_wp2_with fail
      go_ret
      exact ⟨rfl, HS.out.2.2.2⟩
theorem Law.ClocksOrder (x0_0 x0_1 x0_2 x0_3 x0_4 x0_5 x0_6 x0_7 x0_8 x0_9 x0_10 x0_11 x0_12 x0_13 x0_14 x0_15 x1_0 x1_1 x1_2 x1_3 x1_4 x1_5 x1_6 x1_7 x1_8 x1_9 x1_10 x1_11 x1_12 x1_13 x1_14 x1_15 x2_0 x2_1 x2_2 x2_3 x2_4 x2_5 x2_6 x2_7 x2_8 x2_9 x2_10 x2_11 x2_12 x2_13 x2_14 x2_15 : Int) (W : World) (hx0_0 : (Lit.int .i64 x0_0).wf = true) (hx0_1 : (Lit.int .i64 x0_1).wf = true) (hx0_2 : (Lit.int .i64 x0_2).wf = true) (hx0_3 : (Lit.int .i64 x0_3).wf = true) (hx0_4 : (Lit.int .i64 x0_4).wf = true) (hx0_5 : (Lit.int .i64 x0_5).wf = true) (hx0_6 : (Lit.int .i64 x0_6).wf = true) (hx0_7 : (Lit.int .i64 x0_7).wf = true) (hx0_8 : (Lit.int .i64 x0_8).wf = true) (hx0_9 : (Lit.int .i64 x0_9).wf = true) (hx0_10 : (Lit.int .i64 x0_10).wf = true) (hx0_11 : (Lit.int .i64 x0_11).wf = true) (hx0_12 : (Lit.int .i64 x0_12).wf = true) (hx0_13 : (Lit.int .i64 x0_13).wf = true) (hx0_14 : (Lit.int .i64 x0_14).wf = true) (hx0_15 : (Lit.int .i64 x0_15).wf = true) (hx1_0 : (Lit.int .i64 x1_0).wf = true) (hx1_1 : (Lit.int .i64 x1_1).wf = true) (hx1_2 : (Lit.int .i64 x1_2).wf = true) (hx1_3 : (Lit.int .i64 x1_3).wf = true) (hx1_4 : (Lit.int .i64 x1_4).wf = true) (hx1_5 : (Lit.int .i64 x1_5).wf = true) (hx1_6 : (Lit.int .i64 x1_6).wf = true) (hx1_7 : (Lit.int .i64 x1_7).wf = true) (hx1_8 : (Lit.int .i64 x1_8).wf = true) (hx1_9 : (Lit.int .i64 x1_9).wf = true) (hx1_10 : (Lit.int .i64 x1_10).wf = true) (hx1_11 : (Lit.int .i64 x1_11).wf = true) (hx1_12 : (Lit.int .i64 x1_12).wf = true) (hx1_13 : (Lit.int .i64 x1_13).wf = true) (hx1_14 : (Lit.int .i64 x1_14).wf = true) (hx1_15 : (Lit.int .i64 x1_15).wf = true) (hx2_0 : (Lit.int .i64 x2_0).wf = true) (hx2_1 : (Lit.int .i64 x2_1).wf = true) (hx2_2 : (Lit.int .i64 x2_2).wf = true) (hx2_3 : (Lit.int .i64 x2_3).wf = true) (hx2_4 : (Lit.int .i64 x2_4).wf = true) (hx2_5 : (Lit.int .i64 x2_5).wf = true) (hx2_6 : (Lit.int .i64 x2_6).wf = true) (hx2_7 : (Lit.int .i64 x2_7).wf = true) (hx2_8 : (Lit.int .i64 x2_8).wf = true) (hx2_9 : (Lit.int .i64 x2_9).wf = true) (hx2_10 : (Lit.int .i64 x2_10).wf = true) (hx2_11 : (Lit.int .i64 x2_11).wf = true) (hx2_12 : (Lit.int .i64 x2_12).wf = true) (hx2_13 : (Lit.int .i64 x2_13).wf = true) (hx2_14 : (Lit.int .i64 x2_14).wf = true) (hx2_15 : (Lit.int .i64 x2_15).wf = true) (hT : Tab W) :
    Calls Tryd.prog 4 #[.agg #[.int .i64 x0_0, .int .i64 x0_1, .int .i64 x0_2, .int .i64 x0_3, .int .i64 x0_4, .int .i64 x0_5, .int .i64 x0_6, .int .i64 x0_7, .int .i64 x0_8, .int .i64 x0_9, .int .i64 x0_10, .int .i64 x0_11, .int .i64 x0_12, .int .i64 x0_13, .int .i64 x0_14, .int .i64 x0_15], .agg #[.int .i64 x1_0, .int .i64 x1_1, .int .i64 x1_2, .int .i64 x1_3, .int .i64 x1_4, .int .i64 x1_5, .int .i64 x1_6, .int .i64 x1_7, .int .i64 x1_8, .int .i64 x1_9, .int .i64 x1_10, .int .i64 x1_11, .int .i64 x1_12, .int .i64 x1_13, .int .i64 x1_14, .int .i64 x1_15], .agg #[.int .i64 x2_0, .int .i64 x2_1, .int .i64 x2_2, .int .i64 x2_3, .int .i64 x2_4, .int .i64 x2_5, .int .i64 x2_6, .int .i64 x2_7, .int .i64 x2_8, .int .i64 x2_9, .int .i64 x2_10, .int .i64 x2_11, .int .i64 x2_12, .int .i64 x2_13, .int .i64 x2_14, .int .i64 x2_15]] W fun e w' => e = .returned (.bool true) ∧ Below W.heap.size W w' :=
  order_walk (lF [x0_0, x0_1, x0_2, x0_3, x0_4, x0_5, x0_6, x0_7, x0_8, x0_9, x0_10, x0_11, x0_12, x0_13, x0_14, x0_15]) (lF [x1_0, x1_1, x1_2, x1_3, x1_4, x1_5, x1_6, x1_7, x1_8, x1_9, x1_10, x1_11, x1_12, x1_13, x1_14, x1_15]) (lF [x2_0, x2_1, x2_2, x2_3, x2_4, x2_5, x2_6, x2_7, x2_8, x2_9, x2_10, x2_11, x2_12, x2_13, x2_14, x2_15]) W hT (lF_wf [x0_0, x0_1, x0_2, x0_3, x0_4, x0_5, x0_6, x0_7, x0_8, x0_9, x0_10, x0_11, x0_12, x0_13, x0_14, x0_15] (by simp [hx0_0, hx0_1, hx0_2, hx0_3, hx0_4, hx0_5, hx0_6, hx0_7, hx0_8, hx0_9, hx0_10, hx0_11, hx0_12, hx0_13, hx0_14, hx0_15])) (lF_wf [x1_0, x1_1, x1_2, x1_3, x1_4, x1_5, x1_6, x1_7, x1_8, x1_9, x1_10, x1_11, x1_12, x1_13, x1_14, x1_15] (by simp [hx1_0, hx1_1, hx1_2, hx1_3, hx1_4, hx1_5, hx1_6, hx1_7, hx1_8, hx1_9, hx1_10, hx1_11, hx1_12, hx1_13, hx1_14, hx1_15])) (lF_wf [x2_0, x2_1, x2_2, x2_3, x2_4, x2_5, x2_6, x2_7, x2_8, x2_9, x2_10, x2_11, x2_12, x2_13, x2_14, x2_15] (by simp [hx2_0, hx2_1, hx2_2, hx2_3, hx2_4, hx2_5, hx2_6, hx2_7, hx2_8, hx2_9, hx2_10, hx2_11, hx2_12, hx2_13, hx2_14, hx2_15]))
end Go.Proofs.YtocjapnagggapaaDoor
