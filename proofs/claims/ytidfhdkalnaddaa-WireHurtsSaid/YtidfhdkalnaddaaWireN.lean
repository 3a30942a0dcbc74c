/- The reference's Get of an opened text. -/
import Derived.Test.YtidfhdkalnaddaaWireM
namespace Go.Proofs.Ytidfhdkalnaddaa
open Go.RowKit

theorem bts_far {w : World} {A : Option Addr} {g i : Nat} {l : List Nat} {v : Value} (h : Bts w A l) (hk : ∀ q, A = some q → q.block ≠ g) : Bts (w.setCell ⟨g, i, none⟩ v) A l := by
  refine ⟨h.1, fun hl => ?_⟩
  obtain ⟨b, o, rfl, hc⟩ := h.2 hl
  have hb : b ≠ g := hk _ rfl
  refine ⟨b, o, rfl, fun j hj => ?_⟩
  rw [World.cell?_setCell_other _ _ _ _ (by intro e; injection e with e1 _; exact hb e1.symm)]
  exact hc j hj
theorem right_le {f t : Nat} {b : Bool} {s n : Nat} (h : rightF f t b s n = true) : f ≤ 15 ∧ t ≤ 15 ∧ n ≤ 4120 := by
  unfold rightF nodeB at h
  simp only [Bool.and_eq_true, decide_eq_true_eq] at h
  obtain ⟨⟨⟨h1, h2⟩, h3⟩, h4⟩ := h
  refine ⟨by omega, by omega, ?_⟩
  cases b with
  | true => simp at h4; exact h4.2
  | false => simp at h4; omega
set_option maxRecDepth 100000 in
set_option maxHeartbeats 2000000 in
theorem rget_long (b o : Nat) (A : Option Addr) (hA : A = some ⟨b, o, none⟩) (l : List Nat) (n c : Nat) (W : World) (hl : l.length = n) (hn : n ≤ 6000) (hc : n ≤ c) (hB : Bts W A l) (ho : openB l = true) (hs : 23 ≤ n - 4) :
    Calls Try.prog 14 #[.slice A n c] W (RGet l W) := by
  subst hA
  have hX := Blkf.new_at W 25 (0, 0) #[.int .i64 0, .int .i64 0, .bool false, .int .u64 0, .int .u64 0, .slice none 0 0] rfl
  have HX := Lib.hid hX
  have HB0 : Hid (Below W.heap.size W (W.alloc (.cells #[.int .i64 0, .int .i64 0, .bool false, .int .u64 0, .int .u64 0, .slice none 0 0] 25))) := Lib.hid ((Below.refl _ W).alloc (Nat.le_refl _) _)
  obtain ⟨m, hm⟩ : ∃ m, m = n - 4 := ⟨_, rfl⟩
  obtain ⟨B, hBd⟩ : ∃ B, B = l.take m := ⟨_, rfl⟩
  have hml : B.length = m := by rw [hBd, List.length_take]; omega
  have HML := Lib.hid hml
  have HBD := Lib.hid hBd
  have HB := Lib.hid hB
  have HMM : Hid (m = l.length - 4) := Lib.hid (by omega)
  have hmb : m ≤ 6000 := by omega
  have hm23n : 23 ≤ m := by omega
  have hmc : m + 4 ≤ c := by omega
  have hbl : b < W.heap.size := by
    obtain ⟨b', o', e, hcl⟩ := hB.2 (by omega)
    injection e with e
    injection e with e1 e2
    subst e1 e2
    have := cell_lt (hcl 0 (by omega))
    exact this
  have HBL := Lib.hid hbl
  go_enter Try.func14, Try.ntmps14
  clear hX hB hBd hml hbl
  go_wp2_with fail
  refine (ropen_at b o l n c _ true hl ho (by omega) hc (bts_below HB.out HB0.out) (by omega)).mono ?_
  rintro e w1 ⟨rfl, hb1⟩
  have HB1 := Lib.hid (HB0.out.trans (hb1.mono HB0.out.size))
  have HX1 := Lib.hid (HX.out.below hb1 HX.out.lt)
  have HBT : Hid (Bts w1 (some ⟨b, o, none⟩) B) := Lib.hid (by rw [HBD.out]; exact bts_take (bts_below HB.out HB1.out))
  rw [← hm] at hs ⊢
  clear hm hb1
  simp only [if_true]
  have hcell : ∀ i, i < m → w1.cell? ⟨b, o + i, none⟩ = some (.int .u8 ((B.getD i 0 : Nat) : Int)) := by
    obtain ⟨b', o', e, hcl⟩ := HBT.out.2 (by rw [HML.out]; omega)
    injection e with e
    injection e with e1 e2
    subst e1 e2
    intro i hi
    exact hcl i (by rw [HML.out]; exact hi)
  have c2 := hcell 2 (by omega)
  have c3 := hcell 3 (by omega)
  have c4 := hcell 4 (by omega)
  have b2 := HBT.out.1 2
  have b3 := HBT.out.1 3
  have b4 := HBT.out.1 4
  generalize hx2 : B.getD 2 0 = x2 at *
  generalize hx3 : B.getD 3 0 = x3 at *
  generalize hx4 : B.getD 4 0 = x4 at *
  have HX2' := Lib.hid hx2
  have HX3' := Lib.hid hx3
  have HX4' := Lib.hid hx4
  clear hx2 hx3 hx4 hcell
  go_wp2_with fail
  have i2 : (2 : Int) < (m : Int) := by omega
  have i3 : (3 : Int) < (m : Int) := by omega
  have i4 : (4 : Int) < (m : Int) := by omega
  have s2 := fun W' (h : Ext w1.drew W') => (h.cell (p := ⟨b, o + 2, none⟩) (cell_lt c2)).trans c2
  have s3 := fun W' (h : Ext w1.drew W') => (h.cell (p := ⟨b, o + 3, none⟩) (cell_lt c3)).trans c3
  have s4 := fun W' (h : Ext w1.drew W') => (h.cell (p := ⟨b, o + 4, none⟩) (cell_lt c4)).trans c4
  refine wp_region_plan [(0, false), (1, false), (2, false), (3, false), (4, false), (5, false), (6, false), (7, false), (8, false), (9, false), (10, false), (11, false), (12, false), (13, true), (14, true)] (by kernel_rfl) (by kernel_rfl) (fun _ d _ _ _ h => by cases d <;> exact h) ?_
  iterate 13 (refine plan_take (v := ?_) rfl (by kernel_rfl) ?_ ?_; rotate_left; (focus (intro w' hw'; go_simp; try with_reducible rfl)); simp only [Act.put, List.setIfInBounds_toArray, List.set_cons_zero, List.set_cons_succ])
  refine plan_turn rfl (by kernel_rfl) (fun K hK => ?_)
  go_simp
  refine hK _ _ ⟨(Ext.refl _).alloc (Nat.le_refl _) _, ?_⟩
  clear hK K
  refine plan_last rfl (by kernel_rfl) (by kernel_rfl) (fun K hK => ?_)
  go_simp
  refine hK _ _ ?_
  clear hK K
  refine plan_end ?_
  rw [show IntKind.i64.wrap (x3 : Int) = x3 from by rw [IntKind.wrap_i64]; omega, show IntKind.i64.wrap (x4 : Int) = x4 from by rw [IntKind.wrap_i64]; omega]
  obtain ⟨g, hg⟩ : ∃ g, g = w1.heap.size := ⟨_, rfl⟩
  have hX2 := (Blkf.new_at (n := g) w1 25 (0, 0) #[.int .i64 x3, .int .i64 x4, .bool ((x2 : Int) == 1), .int .u64 0, .int .u64 0, .slice none 0 0] hg).drew
  have hE2 := (((Below.refl w1.heap.size w1).alloc (Nat.le_refl _) (.cells #[.int .i64 x3, .int .i64 x4, .bool ((x2 : Int) == 1), .int .u64 0, .int .u64 0, .slice none 0 0] 25))).drew
  rw [← hg]
  have HG : Hid (W.heap.size < g) := Lib.hid (by rw [hg]; exact HX1.out.lt)
  have hY2 := HX1.out.below hE2 HX1.out.lt
  have HB2 := Lib.hid (HB1.out.trans (hE2.mono HB1.out.size))
  have HT2 := Lib.hid (bts_below HBT.out hE2)
  generalize (w1.alloc (.cells #[.int .i64 x3, .int .i64 x4, .bool ((x2 : Int) == 1), .int .u64 0, .int .u64 0, .slice none 0 0] 25)).drew = w2 at *
  have HX2 := Lib.hid hX2
  have HY2 := Lib.hid hY2
  clear hX2 hY2 hE2 hg s2 s3 s4 c2 c3 c4
  have HT5 := Lib.hid (there_in (m := m) (p := 5) (q := 8) (by omega) (by omega) (by decide))
  have HT13 := Lib.hid (there_in (m := m) (p := 13) (q := 8) (by omega) (by omega) (by decide))
  go_wp2_with fail
  refine (rget_at (some ⟨b, o, none⟩) B m c 5 8 _ HML.out (by omega) HT2.out HT5.out).mono ?_
  rintro e w3 ⟨rfl, hb⟩
  have hX := HX2.out.below hb HX2.out.lt
  have hY := HY2.out.below hb HY2.out.lt
  have HB31 := Lib.hid (HB2.out.trans (hb.mono HB2.out.size))
  have HT31 := Lib.hid (bts_below HT2.out hb)
  have HX31 := Lib.hid hX
  have HY31 := Lib.hid hY
  have z3 := hX.cell 3
  have zl := hX.lt
  have zf := fun i => hX.frozen i
  simp at z3
  clear hb hX hY
  rw [show getV B 5 8 = fS B from rfl]
  have hs : fS B < 18446744073709551616 := field_lt B 5 8 HBT.out.1
  obtain ⟨s, hh⟩ : ∃ s, s = fS B := ⟨_, rfl⟩
  rw [← hh] at hs ⊢
  have HFs := Lib.hid hh
  clear hh
  go_wp2_with fail
  clear z3 zl zf
  refine (rget_at (some ⟨b, o, none⟩) B m c 13 8 _ HML.out (by omega) (bts_set (i := 3) (v := .int .u64 s) HT31.out (Nat.ne_of_lt (Nat.lt_trans HBL.out HG.out))) HT13.out).mono ?_
  rintro e w4 ⟨rfl, hb⟩
  have hX := (HX31.out.set_ 3 (.int .u64 s)).below hb (HX31.out.set_ 3 (.int .u64 s)).lt
  have hY := (HY31.out.far (p := ⟨g, 3, none⟩) (Nat.ne_of_lt HG.out) (.int .u64 s)).below hb (HY31.out.far (p := ⟨g, 3, none⟩) (Nat.ne_of_lt HG.out) (.int .u64 s)).lt
  have HB41 := Lib.hid ((HB31.out.setCell (p := ⟨g, 3, none⟩) (Nat.le_of_lt HG.out) (.int .u64 s)).trans (hb.mono (HB31.out.setCell (p := ⟨g, 3, none⟩) (Nat.le_of_lt HG.out) (.int .u64 s)).size))
  have HT41 := Lib.hid (bts_below (bts_set (i := 3) (v := .int .u64 s) HT31.out (Nat.ne_of_lt (Nat.lt_trans HBL.out HG.out))) hb)
  have HX41 := Lib.hid hX
  have HY41 := Lib.hid hY
  have z4 := hX.cell 4
  have zl := hX.lt
  have zf := fun i => hX.frozen i
  simp at z4
  clear hb hX hY
  rw [show getV B 13 8 = fA B from rfl]
  have ha : fA B < 18446744073709551616 := field_lt B 13 8 HBT.out.1
  obtain ⟨a, hh⟩ : ∃ s, s = fA B := ⟨_, rfl⟩
  rw [← hh] at ha ⊢
  have HFa := Lib.hid hh
  clear hh
  go_wp2_with fail
  clear z4 zl zf
  have hX5 := (HX41.out.set_ 4 (.int .u64 a))
  have hY5 := (HY41.out.far (p := ⟨g, 4, none⟩) (Nat.ne_of_lt HG.out) (.int .u64 a))
  have hB5 := (HB41.out.setCell (p := ⟨g, 4, none⟩) (Nat.le_of_lt HG.out) (.int .u64 a))
  have hT5 := (bts_set (i := 4) (v := .int .u64 a) HT41.out (Nat.ne_of_lt (Nat.lt_trans HBL.out HG.out)))
  generalize w4.setCell ⟨g, 4, none⟩ (.int .u64 a) = w5 at *
  simp at hX5
  have HX5 := Lib.hid hX5
  have HY5 := Lib.hid hY5
  have HB5 := Lib.hid hB5
  have HT5' := Lib.hid hT5
  clear hX5 hY5 hB5 hT5
  have hc23 : ¬ c = 23 := by omega
  have hm23 : (23 : Int) ≤ (m : Int) := by omega
  have zl := HX5.out.lt
  have t5 := fun W' (h : Ext w5.drew W') => (h.cell (p := ⟨g, 5, none⟩) zl).trans (HX5.out.cell 5)
  simp at t5
  refine wp_region_plan [(0, false), (1, false), (2, false), (3, false), (4, true), (5, false), (6, true)] (by kernel_rfl) (by kernel_rfl) (fun _ d _ _ _ h => by cases d <;> exact h) ?_
  iterate 4 (refine plan_take (v := ?_) rfl (by kernel_rfl) ?_ ?_; rotate_left; (focus (intro w' hw'; go_simp; try with_reducible rfl)); simp only [Act.put, List.setIfInBounds_toArray, List.set_cons_zero, List.set_cons_succ])
  clear t5
  obtain ⟨i0, hi0, hz0, hz1, hz2⟩ := info_parts info5
  have HD : Hid (Bts w5 (some ⟨b, o + 23, none⟩) (B.drop 23)) := Lib.hid (bts_drop 23 HT5'.out)
  have HDL : Hid ((B.drop 23).length = m - 23) := Lib.hid (by rw [List.length_drop, HML.out])
  refine plan_turn rfl (by kernel_rfl) (fun K hK => ?_)
  refine wp_append_any _ (.tmp 46) (.tmp 48) _ rfl W.heap.size 5 i0 _ 1 1 Try.underlying23 hi0 hz0 hz1 hz2 rfl (by decide) (.slice none 0 0) 0 [] rfl (World.ownsRow_nil _ _ _ _) w5.heap.size (some ⟨b, o + 23, none⟩) (m - 23) (c - 23) ((B.drop 23).map bv) rfl (by have := reads_bts HD.out; rw [HDL.out] at this; exact this) (one_bv _) (by unfold maxLen; omega) (by omega) HB5.out.size ?_
  intro v w6 hown hgrow _
  have hE : Ext w5.drew w6 := ⟨hgrow.os, hgrow.tape, hgrow.output, hgrow.size, fun i hi => hgrow.block i hi (by simp [Value.ownBlock])⟩
  refine hK _ _ ⟨hE, ?_⟩
  clear hK K
  simp only [Act.put, List.setIfInBounds_toArray, List.set_cons_zero, List.set_cons_succ]
  iterate 1 (refine plan_take (v := ?_) rfl (by kernel_rfl) ?_ ?_; rotate_left; (focus (intro w' hw'; go_simp; try with_reducible rfl)); simp only [Act.put, List.setIfInBounds_toArray, List.set_cons_zero, List.set_cons_succ])
  have hX6 := HX5.out.drew.below hE HX5.out.lt
  have hY6 := HY5.out.drew.below hE HY5.out.lt
  have HB6 := Lib.hid (HB5.out.drew.trans (hE.mono HB5.out.size))
  have HT6 := Lib.hid (bts_below (w := w5.drew) HT5'.out hE)
  rw [Nat.zero_add, List.nil_append] at hown
  obtain ⟨AD, cD, rfl, hBD, hAD⟩ := bts_own hown (fun i => getD_drop_lt B 23 HBT.out.1 i) HDL.out.symm
  rw [HDL.out]
  have z5 := hX6.cell 5
  have zl := hX6.lt
  have zf := fun i => hX6.frozen i
  simp at z5
  have HX6 := Lib.hid hX6
  have HY6 := Lib.hid hY6
  have HBD6 := Lib.hid hBD
  have HOWN := Lib.hid hown
  clear hX6 hY6 hBD hown hgrow hE
  refine plan_last rfl (by kernel_rfl) (by kernel_rfl) (fun K hK => ?_)
  go_simp
  refine hK _ _ ?_
  clear hK K
  refine plan_end ?_
  clear z5 zl zf
  have hne := row_ne_blk HOWN.out HX6.out (by decide)
  have hK7 := (Keeps.refl (fun x => x = g) w6).setCell (p := ⟨g, 5, none⟩) (.inl rfl) (.slice AD (m - 23) cD)
  have hO7 := hK7.row HOWN.out (fun x hx h => hne (by rw [hx, h]))
  have hX7 := HX6.out.set_ 5 (.slice AD (m - 23) cD)
  have hY7 := HY6.out.far (p := ⟨g, 5, none⟩) (Nat.ne_of_lt HG.out) (.slice AD (m - 23) cD)
  have hB7 := HB6.out.setCell (p := ⟨g, 5, none⟩) (Nat.le_of_lt HG.out) (.slice AD (m - 23) cD)
  have hT7 := bts_set (i := 5) (v := .slice AD (m - 23) cD) HT6.out (Nat.ne_of_lt (Nat.lt_trans HBL.out HG.out))
  have hD7 : Bts (w6.setCell ⟨g, 5, none⟩ (.slice AD (m - 23) cD)) AD (B.drop 23) := by
    obtain ⟨A', c', e', h', -⟩ := bts_own hO7 (fun i => getD_drop_lt B 23 HBT.out.1 i) HDL.out.symm
    injection e' with e'
    rw [← e'] at h'
    exact h'
  simp at hX7
  generalize w6.setCell ⟨g, 5, none⟩ (.slice AD (m - 23) cD) = w7 at *
  have HX7 := Lib.hid hX7
  have HY7 := Lib.hid hY7
  have HB7 := Lib.hid hB7
  have HT7 := Lib.hid hT7
  have HD7 := Lib.hid hD7
  have HAPART : Hid (∀ q, AD = some q → q.block ≠ W.heap.size) := Lib.hid (fun q hq => by
    have h := row_ne_blk hO7 hY7 (by decide)
    subst hq
    intro e
    apply h
    simp [Value.ownBlock, e])
  clear hne hK7 hO7 hX7 hY7 hB7 hT7 hD7 hAD
  go_wp2_with fail
  have HXD : Hid (Blkf w7.drew g 25 (0, 0) #[.int .i64 x3, .int .i64 x4, .bool ((x2 : Int) == 1), .int .u64 s, .int .u64 a, .slice AD (m - 23) cD]) := Lib.hid HX7.out.drew
  have t0 := fun W' (h : Ext w7.drew W') => (h.cell (p := ⟨g, 0, none⟩) HXD.out.lt).trans (HXD.out.cell 0)
  have t1 := fun W' (h : Ext w7.drew W') => (h.cell (p := ⟨g, 1, none⟩) HXD.out.lt).trans (HXD.out.cell 1)
  have t2 := fun W' (h : Ext w7.drew W') => (h.cell (p := ⟨g, 2, none⟩) HXD.out.lt).trans (HXD.out.cell 2)
  have t3 := fun W' (h : Ext w7.drew W') => (h.cell (p := ⟨g, 3, none⟩) HXD.out.lt).trans (HXD.out.cell 3)
  have t4 := fun W' (h : Ext w7.drew W') => (h.cell (p := ⟨g, 4, none⟩) HXD.out.lt).trans (HXD.out.cell 4)
  have t5 := fun W' (h : Ext w7.drew W') => (h.cell (p := ⟨g, 5, none⟩) HXD.out.lt).trans (HXD.out.cell 5)
  simp at t0 t1 t2 t3 t4 t5
  refine wp_region_plan [(0, false), (1, true), (2, false), (3, false), (4, false), (6, false), (7, false), (5, true), (8, false), (9, false)] (by kernel_rfl) (by kernel_rfl) (fun _ d _ _ _ h => by cases d <;> exact h) ?_
  iterate 1 (refine plan_take (v := ?_) rfl (by kernel_rfl) ?_ ?_; rotate_left; (focus (intro w' hw'; go_simp; try with_reducible rfl)); simp only [Act.put, List.setIfInBounds_toArray, List.set_cons_zero, List.set_cons_succ])
  clear t0 t1 t2 t3 t4 t5
  refine plan_call rfl (by kernel_rfl) (by go_simp; exact ⟨rfl, rfl⟩) ?_
  refine (rright_any x3 x4 ((x2 : Int) == 1) s a AD (m - 23) cD _ (by omega)).mono ?_
  rintro e w8 ⟨rfl, hb8⟩
  have HX8 := Lib.hid (HXD.out.below hb8 HXD.out.lt)
  have HY8 := Lib.hid (HY7.out.drew.below hb8 HY7.out.lt)
  have HB8 := Lib.hid (HB7.out.drew.trans (hb8.mono HB7.out.size))
  have HT8 := Lib.hid (bts_below (w := w7.drew) HT7.out hb8)
  have HD8 := Lib.hid (bts_below (w := w7.drew) HD7.out hb8)
  refine ⟨_, rfl, hb8, ?_⟩
  simp only [Act.put, List.setIfInBounds_toArray, List.set_cons_zero, List.set_cons_succ]
  clear hb8
  have HFB : Hid (fB B = ((x2 : Int) == 1)) := Lib.hid (by unfold fB; rw [HX2'.out, beq_one])
  have HRR : Hid (rightF (fF B) (fT B) (fB B) (fS B) (B.length - 23) = rightF x3 x4 ((x2 : Int) == 1) s (m - 23)) := Lib.hid (by
    rw [HFB.out, HML.out, ← HFs.out]
    unfold fF fT
    rw [HX3'.out, HX4'.out])
  cases hr : rightF x3 x4 ((x2 : Int) == 1) s (m - 23)
  · have HFR : Hid (frameB l = false) := Lib.hid (by
      unfold frameB
      rw [Bool.and_assoc, ← HMM.out, ← HBD.out, frame_ref B (by rw [HML.out]; exact hm23n) HBT.out.1 (by rw [HML.out]; omega), HRR.out, hr]
      simp)
    iterate 2 (refine plan_take (v := ?_) rfl (by kernel_rfl) ?_ ?_; rotate_left; (focus (intro w' hw'; go_simp; try with_reducible rfl)); simp only [Act.put, List.setIfInBounds_toArray, List.set_cons_zero, List.set_cons_succ])
    iterate 3 (refine plan_skip rfl (by kernel_rfl) ?_; simp only [Act.put, List.setIfInBounds_toArray, List.set_cons_zero, List.set_cons_succ])
    refine plan_pass later_ext rfl (by kernel_rfl) ?_
    simp only [Act.put, List.setIfInBounds_toArray, List.set_cons_zero, List.set_cons_succ]
    iterate 1 (refine plan_skip rfl (by kernel_rfl) ?_; simp only [Act.put, List.setIfInBounds_toArray, List.set_cons_zero, List.set_cons_succ])
    iterate 1 (refine plan_take (v := ?_) rfl (by kernel_rfl) ?_ ?_; rotate_left; (focus (intro w' hw'; go_simp; try with_reducible rfl)); simp only [Act.put, List.setIfInBounds_toArray, List.set_cons_zero, List.set_cons_succ])
    refine plan_end ?_
    have y0 := HY8.out.cell 0
    have y1 := HY8.out.cell 1
    have y2 := HY8.out.cell 2
    have y3 := HY8.out.cell 3
    have y4 := HY8.out.cell 4
    have y5 := HY8.out.cell 5
    have yl := HY8.out.lt
    have yf := fun i => HY8.out.frozen i
    simp at y0 y1 y2 y3 y4 y5
    go_wp2
    have hZ := ((((((HY8.out.set_ 0 (.int .i64 0)).set_ 1 (.int .i64 0)).set_ 2 (.bool false)).set_ 3 (.int .u64 0)).set_ 4 (.int .u64 0)).set_ 5 (.slice none 0 0))
    have q0 := hZ.cell 0
    have q1 := hZ.cell 1
    have q2 := hZ.cell 2
    have q3 := hZ.cell 3
    have q4 := hZ.cell 4
    have q5 := hZ.cell 5
    have hBZ := ((((((HB8.out.setCell (p := ⟨W.heap.size, 0, none⟩) (Nat.le_refl _) (.int .i64 0)).setCell (p := ⟨W.heap.size, 1, none⟩) (Nat.le_refl _) (.int .i64 0)).setCell (p := ⟨W.heap.size, 2, none⟩) (Nat.le_refl _) (.bool false)).setCell (p := ⟨W.heap.size, 3, none⟩) (Nat.le_refl _) (.int .u64 0)).setCell (p := ⟨W.heap.size, 4, none⟩) (Nat.le_refl _) (.int .u64 0)).setCell (p := ⟨W.heap.size, 5, none⟩) (Nat.le_refl _) (.slice none 0 0))
    refine bodyPost_ret (v := .tuple #[noneV, .bool false]) (by simp [results, Try.results14, go_sem, noneV, frV, q0, q1, q2, q3, q4, q5]) rfl ⟨hBZ, ?_⟩
    rw [if_neg (by rw [HFR.out]; decide)]
  · have HFR : Hid (frameB l = decide (plainL (fF B) (fT B) (fB B) (fS B) (fA B) (B.drop 23) = B)) := Lib.hid (by
      unfold frameB
      rw [Bool.and_assoc, ← HMM.out, ← HBD.out, frame_ref B (by rw [HML.out]; exact hm23n) HBT.out.1 (by rw [HML.out]; omega), HRR.out, hr, ho]
      simp)
    have hle := right_le hr
    iterate 2 (refine plan_take (v := ?_) rfl (by kernel_rfl) ?_ ?_; rotate_left; (focus (intro w' hw'; go_simp; try with_reducible rfl)); simp only [Act.put, List.setIfInBounds_toArray, List.set_cons_zero, List.set_cons_succ])
    have u0 := fun W' (h : Ext w8 W') => (h.cell (p := ⟨g, 0, none⟩) HX8.out.lt).trans (HX8.out.cell 0)
    have u1 := fun W' (h : Ext w8 W') => (h.cell (p := ⟨g, 1, none⟩) HX8.out.lt).trans (HX8.out.cell 1)
    have u2 := fun W' (h : Ext w8 W') => (h.cell (p := ⟨g, 2, none⟩) HX8.out.lt).trans (HX8.out.cell 2)
    have u3 := fun W' (h : Ext w8 W') => (h.cell (p := ⟨g, 3, none⟩) HX8.out.lt).trans (HX8.out.cell 3)
    have u4 := fun W' (h : Ext w8 W') => (h.cell (p := ⟨g, 4, none⟩) HX8.out.lt).trans (HX8.out.cell 4)
    have u5 := fun W' (h : Ext w8 W') => (h.cell (p := ⟨g, 5, none⟩) HX8.out.lt).trans (HX8.out.cell 5)
    simp at u0 u1 u2 u3 u4 u5
    have hcv : ∀ W', Ext w8 W' → (convert 23 9 (.slice (some ⟨b, o, none⟩) m c)).run Try.prog W' = .ok (.string (strB B)) W' := fun W' h => conv_bts (bts_below HT8.out h) HML.out
    iterate 3 (refine plan_take (v := ?_) rfl (by kernel_rfl) ?_ ?_; rotate_left; (focus (intro w' hw'; go_simp; try with_reducible rfl)); simp only [Act.put, List.setIfInBounds_toArray, List.set_cons_zero, List.set_cons_succ])
    clear u0 u1 u2 u3 u4 u5 hcv
    refine plan_call rfl (by kernel_rfl) (by go_simp; exact ⟨rfl, rfl⟩) ?_
    refine (rplain_any x3 x4 ((x2 : Int) == 1) s a AD (B.drop 23) (m - 23) cD _ HDL.out (by omega) (by omega) hs ha (by omega) HD8.out).mono ?_
    rintro e w9 ⟨rfl, hb9⟩
    have HX9 := Lib.hid (HX8.out.below hb9 HX8.out.lt)
    have HY9 := Lib.hid (HY8.out.below hb9 HY8.out.lt)
    have HB9 := Lib.hid (HB8.out.trans (hb9.mono HB8.out.size))
    have HD9 := Lib.hid (bts_below HD8.out hb9)
    refine ⟨_, rfl, hb9, ?_⟩
    simp only [Act.put, List.setIfInBounds_toArray, List.set_cons_zero, List.set_cons_succ]
    clear hb9
    obtain ⟨Pl, hPl⟩ : ∃ Pl, Pl = plainL x3 x4 ((x2 : Int) == 1) s a (B.drop 23) := ⟨_, rfl⟩
    have hPL : ∀ i : Nat, Pl.getD i 0 < 256 := fun i => by rw [hPl]; exact plain_lt x3 x4 s a _ _ (by omega) (by omega) (fun i => getD_drop_lt B 23 HBT.out.1 i) i
    rw [← hPl]
    have HPE : Hid (plainL (fF B) (fT B) (fB B) (fS B) (fA B) (B.drop 23) = Pl) := Lib.hid (by
      rw [hPl, HFB.out, ← HFs.out, ← HFa.out]
      unfold fF fT
      rw [HX3'.out, HX4'.out])
    rw [HPE.out] at HFR
    clear hPl
    have hcmp : ((strB Pl).toList == (strB B).toList) = decide (Pl = B) := by
      rw [Bool.eq_iff_iff]
      simp only [beq_iff_eq, decide_eq_true_eq]
      exact ⟨fun h => strB_inj hPL HBT.out.1 h, fun h => by rw [h]⟩
    have hcmp2 : ((strB Pl).toList != (strB B).toList) = !decide (Pl = B) := by rw [bne, hcmp]
    iterate 2 (refine plan_take (v := ?_) rfl (by kernel_rfl) ?_ ?_; rotate_left; (focus (intro w' hw'; go_simp; try with_reducible rfl)); simp only [Act.put, List.setIfInBounds_toArray, List.set_cons_zero, List.set_cons_succ])
    refine plan_end ?_
    clear hcmp hcmp2
    by_cases hpb : Pl = B
    · have HFR1 : Hid (frameB l = true) := Lib.hid (by rw [HFR.out]; exact decide_eq_true hpb)
      rw [decide_eq_true hpb]
      clear hpb HFR
      have y0 := HY9.out.cell 0
      have y1 := HY9.out.cell 1
      have y2 := HY9.out.cell 2
      have y3 := HY9.out.cell 3
      have y4 := HY9.out.cell 4
      have y5 := HY9.out.cell 5
      have yl := HY9.out.lt
      have yf := fun i => HY9.out.frozen i
      have v0 := HX9.out.cell 0
      have v1 := HX9.out.cell 1
      have v2 := HX9.out.cell 2
      have v3 := HX9.out.cell 3
      have v4 := HX9.out.cell 4
      have v5 := HX9.out.cell 5
      have vl := HX9.out.lt
      simp at y0 y1 y2 y3 y4 y5 v0 v1 v2 v3 v4 v5
      go_wp2
      have hZ := ((((((HY9.out.set_ 0 (.int .i64 x3)).set_ 1 (.int .i64 x4)).set_ 2 (.bool ((x2 : Int) == 1))).set_ 3 (.int .u64 s)).set_ 4 (.int .u64 a)).set_ 5 (.slice AD (m - 23) cD))
      have q0 := hZ.cell 0
      have q1 := hZ.cell 1
      have q2 := hZ.cell 2
      have q3 := hZ.cell 3
      have q4 := hZ.cell 4
      have q5 := hZ.cell 5
      have hBZ := ((((((HB9.out.setCell (p := ⟨W.heap.size, 0, none⟩) (Nat.le_refl _) (.int .i64 x3)).setCell (p := ⟨W.heap.size, 1, none⟩) (Nat.le_refl _) (.int .i64 x4)).setCell (p := ⟨W.heap.size, 2, none⟩) (Nat.le_refl _) (.bool ((x2 : Int) == 1))).setCell (p := ⟨W.heap.size, 3, none⟩) (Nat.le_refl _) (.int .u64 s)).setCell (p := ⟨W.heap.size, 4, none⟩) (Nat.le_refl _) (.int .u64 a)).setCell (p := ⟨W.heap.size, 5, none⟩) (Nat.le_refl _) (.slice AD (m - 23) cD))
      refine bodyPost_ret (v := .tuple #[frV x3 x4 ((x2 : Int) == 1) s a AD (m - 23) cD, .bool true]) (by simp [results, Try.results14, go_sem, frV, q0, q1, q2, q3, q4, q5]) rfl ⟨hBZ, ?_⟩
      rw [if_pos HFR1.out, ← HMM.out, ← HBD.out]
      refine ⟨AD, cD, ?_, ?_⟩
      · rw [HML.out, HFB.out, ← HFs.out, ← HFa.out]; unfold fF fT; rw [HX3'.out, HX4'.out]
      · exact bts_far (bts_far (bts_far (bts_far (bts_far (bts_far HD9.out HAPART.out) HAPART.out) HAPART.out) HAPART.out) HAPART.out) HAPART.out
    · have HFR1 : Hid (frameB l = false) := Lib.hid (by rw [HFR.out]; exact decide_eq_false hpb)
      rw [decide_eq_false hpb]
      clear hpb HFR
      have y0 := HY9.out.cell 0
      have y1 := HY9.out.cell 1
      have y2 := HY9.out.cell 2
      have y3 := HY9.out.cell 3
      have y4 := HY9.out.cell 4
      have y5 := HY9.out.cell 5
      have yl := HY9.out.lt
      have yf := fun i => HY9.out.frozen i
      simp at y0 y1 y2 y3 y4 y5
      go_wp2
      have hZ := ((((((HY9.out.set_ 0 (.int .i64 0)).set_ 1 (.int .i64 0)).set_ 2 (.bool false)).set_ 3 (.int .u64 0)).set_ 4 (.int .u64 0)).set_ 5 (.slice none 0 0))
      have q0 := hZ.cell 0
      have q1 := hZ.cell 1
      have q2 := hZ.cell 2
      have q3 := hZ.cell 3
      have q4 := hZ.cell 4
      have q5 := hZ.cell 5
      have hBZ := ((((((HB9.out.setCell (p := ⟨W.heap.size, 0, none⟩) (Nat.le_refl _) (.int .i64 0)).setCell (p := ⟨W.heap.size, 1, none⟩) (Nat.le_refl _) (.int .i64 0)).setCell (p := ⟨W.heap.size, 2, none⟩) (Nat.le_refl _) (.bool false)).setCell (p := ⟨W.heap.size, 3, none⟩) (Nat.le_refl _) (.int .u64 0)).setCell (p := ⟨W.heap.size, 4, none⟩) (Nat.le_refl _) (.int .u64 0)).setCell (p := ⟨W.heap.size, 5, none⟩) (Nat.le_refl _) (.slice none 0 0))
      refine bodyPost_ret (v := .tuple #[noneV, .bool false]) (by simp [results, Try.results14, go_sem, noneV, frV, q0, q1, q2, q3, q4, q5]) rfl ⟨hBZ, ?_⟩
      rw [if_neg (by rw [HFR1.out]; decide)]
end Go.Proofs.Ytidfhdkalnaddaa
