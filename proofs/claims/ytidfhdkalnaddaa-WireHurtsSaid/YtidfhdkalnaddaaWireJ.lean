/- Get: the fields. -/
import Derived.Test.YtidfhdkalnaddaaWireI
namespace Go.Proofs.Ytidfhdkalnaddaa
open Go.RowKit

theorem bts_set {w : World} {g k o i : Nat} {l : List Nat} {v : Value} (h : Bts w (some ⟨k, o, none⟩) l) (hk : k ≠ g) : Bts (w.setCell ⟨g, i, none⟩ v) (some ⟨k, o, none⟩) l :=
  bts_apart h ((Keeps.refl (fun x => x = g) w).setCell (p := ⟨g, i, none⟩) (.inl rfl) v) hk
theorem there_in {m p q : Nat} (h : p + q ≤ m) (hp : p ≤ m) (hq : sizeB q = true) : thereB m (p : Int) (q : Int) = true := by
  unfold thereB
  rw [hq, decide_eq_true (by omega : (0 : Int) ≤ p), decide_eq_true (by omega : (p : Int) ≤ m), decide_eq_true (by omega : (q : Int) ≤ m - p)]
  rfl
theorem field_lt (B : List Nat) (p q : Nat) (h : ∀ i : Nat, B.getD i 0 < 256) : leNat ((B.drop p).take q) < 256 ^ q := leNat_take_lt (B.drop p) q (fun i => getD_drop_lt B p h i)
theorem beq_one (x : Nat) : (x == 1) = (((x : Nat) : Int) == 1) := by
  by_cases h : x = 1
  · subst h; rfl
  · rw [beq_eq_false_iff_ne.2 h, beq_eq_false_iff_ne.2 (show ((x : Nat) : Int) ≠ 1 by omega)]
theorem Keeps.drews {F : Nat → Prop} {w w' : World} (h : Keeps F w w') : Keeps F w.drew w'.drew := ⟨h.os, h.tape, h.output, h.size, h.block⟩
theorem keeps_cell {F : Nat → Prop} {w w' : World} {p : Addr} {v : Value} (h : Keeps F w w') (hc : w.cell? p = some v) (hF : ¬ F p.block) : w'.cell? p = some v := by
  rw [World.cell?_of_block (h.block p.block (cell_lt hc) hF)]
  exact hc
def GetR (B : List Nat) (W : World) (e : Ending) (w' : World) : Prop :=
  Below W.heap.size W w' ∧ if bodyOK B then ∃ A' c', e = .returned (.tuple #[frV (fF B) (fT B) (fB B) (fS B) (fA B) A' (B.length - 23) c', .bool true]) ∧ Bts w' A' (B.drop 23)
  else e = .returned (.tuple #[noneV, .bool false])
set_option maxRecDepth 100000 in
set_option maxHeartbeats 2000000 in
theorem get_head (A : Option Addr) (l : List Nat) (n c : Nat) (W : World) (hl : l.length = n) (hn : n ≤ 1000000) (hc : n ≤ c) (hB : Bts W A l) (ho : openB l = true) (hh : headOK (l.take (n - 4)) = true) :
    Calls Try.prog 10 #[.slice A n c] W (GetR (l.take (n - 4)) W) := by
  have HB := Lib.hid hB
  have HB0 : Hid (Below W.heap.size W (W.alloc (.cells #[.int .i64 0, .int .i64 0, .bool false, .int .u64 0, .int .u64 0, .slice none 0 0] 25))) := Lib.hid ((Below.refl _ W).alloc (Nat.le_refl _) _)
  have hX := Blkf.new_at W 25 (0, 0) #[.int .i64 0, .int .i64 0, .bool false, .int .u64 0, .int .u64 0, .slice none 0 0] rfl
  have HX := Lib.hid hX
  obtain ⟨m, hm⟩ : ∃ m, m = n - 4 := ⟨_, rfl⟩
  have h4 : 4 ≤ l.length := by
    unfold openB at ho
    simp at ho
    exact ho.1
  obtain ⟨B, hBd⟩ : ∃ B, B = l.take m := ⟨_, rfl⟩
  have HBD := Lib.hid hBd
  rw [← hm, ← hBd] at hh
  have hml : B.length = m := by rw [hBd, List.length_take]; omega
  have HML := Lib.hid hml
  have hmb : m ≤ 1000000 := by omega
  obtain ⟨h23, h0, h1, h2⟩ := head_cases hh
  have hm23 : 23 ≤ m := by omega
  clear hml h23 hh
  have HMM := Lib.hid hm
  clear hB hX h4 hBd
  go_enter Try.func10, Try.ntmps10
  go_wp2_with fail
  refine wp_scope_jumps 0 (fun _ _ => False) (fun _ _ => 0) rfl ?_ ?_
  · go_wp2_with fail
    refine (open_yes A l n c _ hl (by omega) hc (bts_below HB.out HB0.out) ho).mono ?_
    rintro e w1 ⟨v, rfl, hO, hb1⟩
    rw [← hm, ← HBD.out] at hO
    clear hm
    obtain ⟨A1, c1, rfl⟩ := row_form hO
    have hcap := own_cap hO
    have HB1 := Lib.hid (HB0.out.trans (hb1.mono HB0.out.size))
    have hX1 := HX.out.below hb1 HX.out.lt
    have HX1 := Lib.hid hX1
    have HBT : Hid (Bts w1 A1 B) := Lib.hid (by
      obtain ⟨A', c', e', h', -⟩ := bts_own hO (fun i => by rw [HBD.out]; exact getD_take_lt l m i HB.out.1) HML.out.symm
      injection e' with e'
      rw [e']
      exact h')
    have HO := Lib.hid hO
    clear hb1 hX1 hO
    obtain ⟨k, cap, hv, hge, hlt⟩ := HO.out.form (by omega)
    injection hv with hv1 hv2 hv3
    subst hv1
    have hkg : k ≠ W.heap.size := by simp at hge; omega
    have HKG := Lib.hid hkg
    clear hge hlt hv2 hv3
    have c0 := bts_cell HBT.out 0 (by rw [HML.out]; omega)
    have c1' := bts_cell HBT.out 1 (by rw [HML.out]; omega)
    have c2 := bts_cell HBT.out 2 (by rw [HML.out]; omega)
    rw [h0] at c0
    rw [h1] at c1'
    have h2i : ((B.getD 2 0 : Nat) : Int) ≤ 1 := by omega
    have c3 := bts_cell HBT.out 3 (by rw [HML.out]; omega)
    have c4 := bts_cell HBT.out 4 (by rw [HML.out]; omega)
    generalize hx2 : B.getD 2 0 = x2 at *
    generalize hx3 : B.getD 3 0 = x3 at *
    generalize hx4 : B.getD 4 0 = x4 at *
    have HX2 := Lib.hid hx2
    have HX3 := Lib.hid hx3
    have HX4 := Lib.hid hx4
    clear hx2 hx3 hx4 h0 h1 h2
    have x0 := HX1.out.cell 0
    have x1 := HX1.out.cell 1
    have x2' := HX1.out.cell 2
    have x3' := HX1.out.cell 3
    have x4' := HX1.out.cell 4
    have x5' := HX1.out.cell 5
    have xl := HX1.out.lt
    have xf := fun i => HX1.out.frozen i
    go_wp2_with fail
    have b3 := HBT.out.1 3
    have b4 := HBT.out.1 4
    rw [HX3.out] at b3
    rw [HX4.out] at b4
    have i2 : (2 : Int) < (m : Int) := by omega
    have i3 : (3 : Int) < (m : Int) := by omega
    have i4 : (4 : Int) < (m : Int) := by omega
    have s2 := fun W' (h : Keeps (fun g => g = W.heap.size) w1.drew W') => keeps_cell h (show w1.drew.cell? ⟨k, 2, none⟩ = _ from c2) HKG.out
    have s3 := fun W' (h : Keeps (fun g => g = W.heap.size) w1.drew W') => keeps_cell h (show w1.drew.cell? ⟨k, 3, none⟩ = _ from c3) HKG.out
    have s4 := fun W' (h : Keeps (fun g => g = W.heap.size) w1.drew W') => keeps_cell h (show w1.drew.cell? ⟨k, 4, none⟩ = _ from c4) HKG.out
    refine wp_region_plan_by (Keeps (fun g => g = W.heap.size)) (later_keeps _) [(0, false), (1, false), (2, false), (3, false), (4, false), (5, false), (6, false), (7, false), (8, false), (9, false), (10, false), (11, false), (12, false), (13, true), (14, false), (15, true), (16, false), (17, true)] (by kernel_rfl) (by kernel_rfl) (fun _ d _ _ _ h => by cases d <;> exact h) ?_
    iterate 13 (refine plan_take (v := ?_) rfl (by kernel_rfl) ?_ ?_; rotate_left; (focus (intro w' hw'; go_simp; try with_reducible rfl)); simp only [Act.put, List.setIfInBounds_toArray, List.set_cons_zero, List.set_cons_succ])
    refine plan_turn rfl (by kernel_rfl) (fun K hK => ?_)
    go_simp
    refine hK _ _ ⟨Keeps.drews ((Keeps.refl (fun g => g = W.heap.size) _).setCell (p := ⟨W.heap.size, _, none⟩) (.inl rfl) _), ?_⟩
    clear hK K
    iterate 1 (refine plan_take (v := ?_) rfl (by kernel_rfl) ?_ ?_; rotate_left; (focus (intro w' hw'; go_simp; try with_reducible rfl)); simp only [Act.put, List.setIfInBounds_toArray, List.set_cons_zero, List.set_cons_succ])
    refine plan_turn rfl (by kernel_rfl) (fun K hK => ?_)
    go_simp
    refine hK _ _ ⟨Keeps.drews ((Keeps.refl (fun g => g = W.heap.size) _).setCell (p := ⟨W.heap.size, _, none⟩) (.inl rfl) _), ?_⟩
    clear hK K
    iterate 1 (refine plan_take (v := ?_) rfl (by kernel_rfl) ?_ ?_; rotate_left; (focus (intro w' hw'; go_simp; try with_reducible rfl)); simp only [Act.put, List.setIfInBounds_toArray, List.set_cons_zero, List.set_cons_succ])
    refine plan_turn rfl (by kernel_rfl) (fun K hK => ?_)
    go_simp
    refine hK _ _ ⟨Keeps.drews ((Keeps.refl (fun g => g = W.heap.size) _).setCell (p := ⟨W.heap.size, _, none⟩) (.inl rfl) _), ?_⟩
    clear hK K
    refine plan_end ?_
    rw [show IntKind.i64.wrap (x3 : Int) = x3 from by rw [IntKind.wrap_i64]; omega, show IntKind.i64.wrap (x4 : Int) = x4 from by rw [IntKind.wrap_i64]; omega]
    have hXZ := (((HX1.out.set_ 2 (.bool ((x2 : Int) == 1))).set_ 0 (.int .i64 x3)).set_ 1 (.int .i64 x4)).drew
    have hKZ := ((((Keeps.refl (fun g => g = W.heap.size) w1).setCell (p := ⟨W.heap.size, 2, none⟩) (.inl rfl) (.bool ((x2 : Int) == 1))).setCell (p := ⟨W.heap.size, 0, none⟩) (.inl rfl) (.int .i64 x3)).setCell (p := ⟨W.heap.size, 1, none⟩) (.inl rfl) (.int .i64 x4)).drew
    generalize (((w1.setCell ⟨W.heap.size, 2, none⟩ (.bool ((x2 : Int) == 1))).setCell ⟨W.heap.size, 0, none⟩ (.int .i64 x3)).setCell ⟨W.heap.size, 1, none⟩ (.int .i64 x4)).drew = wz at *
    have HXZ := Lib.hid hXZ
    have HKZ := Lib.hid hKZ
    have z0 := hXZ.cell 0
    have z1 := hXZ.cell 1
    have z2 := hXZ.cell 2
    have z3 := hXZ.cell 3
    have z4 := hXZ.cell 4
    have z5 := hXZ.cell 5
    have zl := hXZ.lt
    have zf := fun i => hXZ.frozen i
    have HBZ := Lib.hid (bts_apart HBT.out hKZ HKG.out)
    clear hXZ hKZ x0 x1 x2' x3' x4' x5' xl xf c0 c1' c2 c3 c4 s2 s3 s4
    simp at z0 z1 z2 z3 z4 z5
    have HT5 := Lib.hid (there_in (m := m) (p := 5) (q := 8) (by omega) (by omega) (by decide))
    have HT13 := Lib.hid (there_in (m := m) (p := 13) (q := 8) (by omega) (by omega) (by decide))
    have HT21 := Lib.hid (there_in (m := 2) (p := 0) (q := 2) (by omega) (by omega) (by decide))
    go_wp2_with fail
    refine (get_at (some ⟨k, 0, none⟩) B m c1 5 8 _ HML.out (by omega) HBZ.out HT5.out).mono ?_
    rintro e w ⟨rfl, rfl⟩
    rw [show getV B 5 8 = fS B from rfl]
    have hsl : fS B < 18446744073709551616 := field_lt B 5 8 HBZ.out.1
    obtain ⟨s, hs⟩ : ∃ s, s = fS B := ⟨_, rfl⟩
    rw [← hs] at hsl ⊢
    have HS := Lib.hid hs
    clear hs
    go_wp2_with fail
    refine (get_at (some ⟨k, 0, none⟩) B m c1 13 8 _ HML.out (by omega) (bts_set HBZ.out HKG.out) HT13.out).mono ?_
    rintro e w ⟨rfl, rfl⟩
    rw [show getV B 13 8 = fA B from rfl]
    have hal : fA B < 18446744073709551616 := field_lt B 13 8 HBZ.out.1
    obtain ⟨ac, hac⟩ : ∃ ac, ac = fA B := ⟨_, rfl⟩
    rw [← hac] at hal ⊢
    have HAC := Lib.hid hac
    clear hac
    go_wp2_with fail
    refine (get_at (some ⟨k, 21, none⟩) ((B.drop 21).take 2) 2 (c1 - 21) 0 2 _ (by rw [List.length_take, List.length_drop, HML.out]; omega) (by omega) (bts_set (bts_set (bts_take (show Bts wz (some ⟨k, 21, none⟩) (B.drop 21) from Nat.zero_add 21 ▸ bts_drop 21 HBZ.out)) HKG.out) HKG.out) HT21.out).mono ?_
    rintro e w ⟨rfl, rfl⟩
    rw [show getV ((B.drop 21).take 2) 0 2 = fZ B from by simp [getV, fZ, List.take_take]]
    have hzl : fZ B < 65536 := field_lt B 21 2 HBZ.out.1
    obtain ⟨zz, hzz⟩ : ∃ zz, zz = fZ B := ⟨_, rfl⟩
    rw [← hzz] at hzl ⊢
    have HZZ := Lib.hid hzz
    clear hzz
    have HFB : Hid (fB B = ((x2 : Int) == 1)) := Lib.hid (by unfold fB; rw [HX2.out, beq_one])
    have HBO : Hid (bodyOK B = (zz == m - 23 && rightF x3 x4 ((x2 : Int) == 1) s (m - 23))) := Lib.hid (by
      unfold bodyOK
      rw [HFB.out, HML.out, ← HZZ.out, ← HS.out]
      unfold fF fT
      rw [HX3.out, HX4.out])
    have HBD0 : Hid (Bts wz (some ⟨k, 23, none⟩) (B.drop 23)) := Lib.hid (Nat.zero_add 23 ▸ bts_drop 23 HBZ.out)
    have HBW : Hid (Below W.heap.size W wz) := Lib.hid (HB1.out.trans (HKZ.out.below (fun i hi => by omega) HB1.out.size))
    by_cases hz : zz = m - 23
    · skip
      by_cases hc23 : c1 = 23
      · obtain rfl : m = 23 := by omega
        subst hc23
        subst hz
        go_wp2_with fail
        have hb0 := ((HBW.out.setCell (p := ⟨W.heap.size, 3, none⟩) (Nat.le_refl _) (.int .u64 s)).setCell (p := ⟨W.heap.size, 4, none⟩) (Nat.le_refl _) (.int .u64 ac)).setCell (p := ⟨W.heap.size, 5, none⟩) (Nat.le_refl _) (.slice (some ⟨k, 0, none⟩) 0 0)
        have HB0' := Lib.hid hb0
        clear hb0
        refine (right_any x3 x4 ((x2 : Int) == 1) s ac (some ⟨k, 0, none⟩) 0 0 _ (by omega)).mono ?_
        rintro e w2 ⟨rfl, hb2⟩
        have HB2 := Lib.hid (HB0'.out.trans (hb2.mono HB0'.out.size))
        have HK2 := Lib.hid hb2
        have hX2 := (((HXZ.out.set_ 3 (.int .u64 s)).set_ 4 (.int .u64 ac)).set_ 5 (.slice (some ⟨k, 0, none⟩) 0 0)).below hb2 (((HXZ.out.set_ 3 (.int .u64 s)).set_ 4 (.int .u64 ac)).set_ 5 (.slice (some ⟨k, 0, none⟩) 0 0)).lt
        have y0 := hX2.cell 0
        have y1 := hX2.cell 1
        have y2 := hX2.cell 2
        have y3 := hX2.cell 3
        have y4 := hX2.cell 4
        have y5 := hX2.cell 5
        have yl := hX2.lt
        have yf := fun i => hX2.frozen i
        have HX2' := Lib.hid hX2
        simp at y0 y1 y2 y3 y4 y5
        clear hX2 z0 z1 z2 z3 z4 z5 zl zf
        clear hb2
        cases hr : rightF x3 x4 ((x2 : Int) == 1) s (0)
        · have HBAD : Hid (bodyOK B = false) := Lib.hid (by rw [HBO.out, hr, Bool.and_false])
          go_wp2_with fail
          go_step3
          go_wp2
          have hZ := ((((((HX2'.out.set_ 0 (.int .i64 0)).set_ 1 (.int .i64 0)).set_ 2 (.bool false)).set_ 3 (.int .u64 0)).set_ 4 (.int .u64 0)).set_ 5 (.slice none 0 0))
          have q0 := hZ.cell 0
          have q1 := hZ.cell 1
          have q2 := hZ.cell 2
          have q3 := hZ.cell 3
          have q4 := hZ.cell 4
          have q5 := hZ.cell 5
          have hBZ := ((((((HB2.out.setCell (p := ⟨W.heap.size, 0, none⟩) (Nat.le_refl _) (.int .i64 0)).setCell (p := ⟨W.heap.size, 1, none⟩) (Nat.le_refl _) (.int .i64 0)).setCell (p := ⟨W.heap.size, 2, none⟩) (Nat.le_refl _) (.bool false)).setCell (p := ⟨W.heap.size, 3, none⟩) (Nat.le_refl _) (.int .u64 0)).setCell (p := ⟨W.heap.size, 4, none⟩) (Nat.le_refl _) (.int .u64 0)).setCell (p := ⟨W.heap.size, 5, none⟩) (Nat.le_refl _) (.slice none 0 0))
          refine bodyPost_ret (v := .tuple #[noneV, .bool false]) (by simp [results, Try.results10, go_sem, noneV, frV, q0, q1, q2, q3, q4, q5]) rfl ⟨hBZ, ?_⟩
          rw [← HMM.out, ← HBD.out, if_neg (by rw [HBAD.out]; decide)]
        · have HGOOD : Hid (bodyOK B = true) := Lib.hid (by rw [HBO.out, hr, beq_self_eq_true]; rfl)
          go_wp2
          simp only [Exit.jump]
          have hZ := ((((((HX2'.out.set_ 0 (.int .i64 x3)).set_ 1 (.int .i64 x4)).set_ 2 (.bool ((x2 : Int) == 1))).set_ 3 (.int .u64 s)).set_ 4 (.int .u64 ac)).set_ 5 (.slice (some ⟨k, 0, none⟩) 0 0))
          have q0 := hZ.cell 0
          have q1 := hZ.cell 1
          have q2 := hZ.cell 2
          have q3 := hZ.cell 3
          have q4 := hZ.cell 4
          have q5 := hZ.cell 5
          have hBZ := ((((((HB2.out.setCell (p := ⟨W.heap.size, 0, none⟩) (Nat.le_refl _) (.int .i64 x3)).setCell (p := ⟨W.heap.size, 1, none⟩) (Nat.le_refl _) (.int .i64 x4)).setCell (p := ⟨W.heap.size, 2, none⟩) (Nat.le_refl _) (.bool ((x2 : Int) == 1))).setCell (p := ⟨W.heap.size, 3, none⟩) (Nat.le_refl _) (.int .u64 s)).setCell (p := ⟨W.heap.size, 4, none⟩) (Nat.le_refl _) (.int .u64 ac)).setCell (p := ⟨W.heap.size, 5, none⟩) (Nat.le_refl _) (.slice (some ⟨k, 0, none⟩) 0 0))
          refine bodyPost_ret (v := .tuple #[frV x3 x4 ((x2 : Int) == 1) s ac (some ⟨k, 0, none⟩) 0 0, .bool true]) (by simp [results, Try.results10, go_sem, frV, q0, q1, q2, q3, q4, q5]) rfl ⟨hBZ, ?_⟩
          rw [← HMM.out, ← HBD.out, if_pos HGOOD.out]
          refine ⟨some ⟨k, 0, none⟩, 0, ?_, ?_⟩
          · rw [HML.out, HFB.out, ← HS.out, ← HAC.out]; unfold fF fT; rw [HX3.out, HX4.out]
          · rw [List.drop_eq_nil_of_le (by rw [HML.out]; exact Nat.le_refl _)]
            exact ⟨fun i => by simp, fun h => absurd h (by simp)⟩
      · subst hz
        go_wp2_with fail
        have hb0 := ((HBW.out.setCell (p := ⟨W.heap.size, 3, none⟩) (Nat.le_refl _) (.int .u64 s)).setCell (p := ⟨W.heap.size, 4, none⟩) (Nat.le_refl _) (.int .u64 ac)).setCell (p := ⟨W.heap.size, 5, none⟩) (Nat.le_refl _) (.slice (some ⟨k, 23, none⟩) (m - 23) (c1 - 23))
        have HB0' := Lib.hid hb0
        clear hb0
        refine (right_any x3 x4 ((x2 : Int) == 1) s ac (some ⟨k, 23, none⟩) (m - 23) (c1 - 23) _ (by omega)).mono ?_
        rintro e w2 ⟨rfl, hb2⟩
        have HB2 := Lib.hid (HB0'.out.trans (hb2.mono HB0'.out.size))
        have HK2 := Lib.hid hb2
        have hX2 := (((HXZ.out.set_ 3 (.int .u64 s)).set_ 4 (.int .u64 ac)).set_ 5 (.slice (some ⟨k, 23, none⟩) (m - 23) (c1 - 23))).below hb2 (((HXZ.out.set_ 3 (.int .u64 s)).set_ 4 (.int .u64 ac)).set_ 5 (.slice (some ⟨k, 23, none⟩) (m - 23) (c1 - 23))).lt
        have y0 := hX2.cell 0
        have y1 := hX2.cell 1
        have y2 := hX2.cell 2
        have y3 := hX2.cell 3
        have y4 := hX2.cell 4
        have y5 := hX2.cell 5
        have yl := hX2.lt
        have yf := fun i => hX2.frozen i
        have HX2' := Lib.hid hX2
        simp at y0 y1 y2 y3 y4 y5
        clear hX2 z0 z1 z2 z3 z4 z5 zl zf
        clear hb2
        cases hr : rightF x3 x4 ((x2 : Int) == 1) s ((m - 23))
        · have HBAD : Hid (bodyOK B = false) := Lib.hid (by rw [HBO.out, hr, Bool.and_false])
          go_wp2_with fail
          go_step3
          go_wp2
          have hZ := ((((((HX2'.out.set_ 0 (.int .i64 0)).set_ 1 (.int .i64 0)).set_ 2 (.bool false)).set_ 3 (.int .u64 0)).set_ 4 (.int .u64 0)).set_ 5 (.slice none 0 0))
          have q0 := hZ.cell 0
          have q1 := hZ.cell 1
          have q2 := hZ.cell 2
          have q3 := hZ.cell 3
          have q4 := hZ.cell 4
          have q5 := hZ.cell 5
          have hBZ := ((((((HB2.out.setCell (p := ⟨W.heap.size, 0, none⟩) (Nat.le_refl _) (.int .i64 0)).setCell (p := ⟨W.heap.size, 1, none⟩) (Nat.le_refl _) (.int .i64 0)).setCell (p := ⟨W.heap.size, 2, none⟩) (Nat.le_refl _) (.bool false)).setCell (p := ⟨W.heap.size, 3, none⟩) (Nat.le_refl _) (.int .u64 0)).setCell (p := ⟨W.heap.size, 4, none⟩) (Nat.le_refl _) (.int .u64 0)).setCell (p := ⟨W.heap.size, 5, none⟩) (Nat.le_refl _) (.slice none 0 0))
          refine bodyPost_ret (v := .tuple #[noneV, .bool false]) (by simp [results, Try.results10, go_sem, noneV, frV, q0, q1, q2, q3, q4, q5]) rfl ⟨hBZ, ?_⟩
          rw [← HMM.out, ← HBD.out, if_neg (by rw [HBAD.out]; decide)]
        · have HGOOD : Hid (bodyOK B = true) := Lib.hid (by rw [HBO.out, hr, beq_self_eq_true]; rfl)
          go_wp2
          simp only [Exit.jump]
          have hZ := ((((((HX2'.out.set_ 0 (.int .i64 x3)).set_ 1 (.int .i64 x4)).set_ 2 (.bool ((x2 : Int) == 1))).set_ 3 (.int .u64 s)).set_ 4 (.int .u64 ac)).set_ 5 (.slice (some ⟨k, 23, none⟩) (m - 23) (c1 - 23)))
          have q0 := hZ.cell 0
          have q1 := hZ.cell 1
          have q2 := hZ.cell 2
          have q3 := hZ.cell 3
          have q4 := hZ.cell 4
          have q5 := hZ.cell 5
          have hBZ := ((((((HB2.out.setCell (p := ⟨W.heap.size, 0, none⟩) (Nat.le_refl _) (.int .i64 x3)).setCell (p := ⟨W.heap.size, 1, none⟩) (Nat.le_refl _) (.int .i64 x4)).setCell (p := ⟨W.heap.size, 2, none⟩) (Nat.le_refl _) (.bool ((x2 : Int) == 1))).setCell (p := ⟨W.heap.size, 3, none⟩) (Nat.le_refl _) (.int .u64 s)).setCell (p := ⟨W.heap.size, 4, none⟩) (Nat.le_refl _) (.int .u64 ac)).setCell (p := ⟨W.heap.size, 5, none⟩) (Nat.le_refl _) (.slice (some ⟨k, 23, none⟩) (m - 23) (c1 - 23)))
          refine bodyPost_ret (v := .tuple #[frV x3 x4 ((x2 : Int) == 1) s ac (some ⟨k, 23, none⟩) (m - 23) (c1 - 23), .bool true]) (by simp [results, Try.results10, go_sem, frV, q0, q1, q2, q3, q4, q5]) rfl ⟨hBZ, ?_⟩
          rw [← HMM.out, ← HBD.out, if_pos HGOOD.out]
          refine ⟨some ⟨k, 23, none⟩, (c1 - 23), ?_, ?_⟩
          · rw [HML.out, HFB.out, ← HS.out, ← HAC.out]; unfold fF fT; rw [HX3.out, HX4.out]
          · exact bts_set (bts_set (bts_set (bts_set (bts_set (bts_set (bts_below (bts_set (bts_set (bts_set HBD0.out HKG.out) HKG.out) HKG.out) HK2.out) HKG.out) HKG.out) HKG.out) HKG.out) HKG.out) HKG.out
    · have hz' : ((zz : Int) == ((m - 23 : Nat) : Int)) = false := beq_eq_false_iff_ne.2 (by omega)
      have HBAD : Hid (bodyOK B = false) := Lib.hid (by rw [HBO.out, beq_eq_false_iff_ne.2 hz]; rfl)
      by_cases hc23 : c1 = 23
      · obtain rfl : m = 23 := by omega
        subst hc23
        have hz0 : ((zz : Int) == 0) = false := beq_eq_false_iff_ne.2 (by omega)
        clear hz
        go_wp2_with fail
        have hb0 := ((HBW.out.setCell (p := ⟨W.heap.size, 3, none⟩) (Nat.le_refl _) (.int .u64 s)).setCell (p := ⟨W.heap.size, 4, none⟩) (Nat.le_refl _) (.int .u64 ac)).setCell (p := ⟨W.heap.size, 5, none⟩) (Nat.le_refl _) (.slice (some ⟨k, 0, none⟩) 0 0)
        have HB2 := Lib.hid hb0
        clear hb0
        have hX2 := ((HXZ.out.set_ 3 (.int .u64 s)).set_ 4 (.int .u64 ac)).set_ 5 (.slice (some ⟨k, 0, none⟩) 0 0)
        have y0 := hX2.cell 0
        have y1 := hX2.cell 1
        have y2 := hX2.cell 2
        have y3 := hX2.cell 3
        have y4 := hX2.cell 4
        have y5 := hX2.cell 5
        have yl := hX2.lt
        have yf := fun i => hX2.frozen i
        have HX2' := Lib.hid hX2
        simp at y0 y1 y2 y3 y4 y5
        clear hX2 z0 z1 z2 z3 z4 z5 zl zf
        go_step3
        go_wp2
        have hZ := ((((((HX2'.out.set_ 0 (.int .i64 0)).set_ 1 (.int .i64 0)).set_ 2 (.bool false)).set_ 3 (.int .u64 0)).set_ 4 (.int .u64 0)).set_ 5 (.slice none 0 0))
        have q0 := hZ.cell 0
        have q1 := hZ.cell 1
        have q2 := hZ.cell 2
        have q3 := hZ.cell 3
        have q4 := hZ.cell 4
        have q5 := hZ.cell 5
        have hBZ := ((((((HB2.out.setCell (p := ⟨W.heap.size, 0, none⟩) (Nat.le_refl _) (.int .i64 0)).setCell (p := ⟨W.heap.size, 1, none⟩) (Nat.le_refl _) (.int .i64 0)).setCell (p := ⟨W.heap.size, 2, none⟩) (Nat.le_refl _) (.bool false)).setCell (p := ⟨W.heap.size, 3, none⟩) (Nat.le_refl _) (.int .u64 0)).setCell (p := ⟨W.heap.size, 4, none⟩) (Nat.le_refl _) (.int .u64 0)).setCell (p := ⟨W.heap.size, 5, none⟩) (Nat.le_refl _) (.slice none 0 0))
        refine bodyPost_ret (v := .tuple #[noneV, .bool false]) (by simp [results, Try.results10, go_sem, noneV, frV, q0, q1, q2, q3, q4, q5]) rfl ⟨hBZ, ?_⟩
        rw [← HMM.out, ← HBD.out, if_neg (by rw [HBAD.out]; decide)]
      · clear hz
        go_wp2_with fail
        have hb0 := ((HBW.out.setCell (p := ⟨W.heap.size, 3, none⟩) (Nat.le_refl _) (.int .u64 s)).setCell (p := ⟨W.heap.size, 4, none⟩) (Nat.le_refl _) (.int .u64 ac)).setCell (p := ⟨W.heap.size, 5, none⟩) (Nat.le_refl _) (.slice (some ⟨k, 23, none⟩) (m - 23) (c1 - 23))
        have HB2 := Lib.hid hb0
        clear hb0
        have hX2 := ((HXZ.out.set_ 3 (.int .u64 s)).set_ 4 (.int .u64 ac)).set_ 5 (.slice (some ⟨k, 23, none⟩) (m - 23) (c1 - 23))
        have y0 := hX2.cell 0
        have y1 := hX2.cell 1
        have y2 := hX2.cell 2
        have y3 := hX2.cell 3
        have y4 := hX2.cell 4
        have y5 := hX2.cell 5
        have yl := hX2.lt
        have yf := fun i => hX2.frozen i
        have HX2' := Lib.hid hX2
        simp at y0 y1 y2 y3 y4 y5
        clear hX2 z0 z1 z2 z3 z4 z5 zl zf
        go_step3
        go_wp2
        have hZ := ((((((HX2'.out.set_ 0 (.int .i64 0)).set_ 1 (.int .i64 0)).set_ 2 (.bool false)).set_ 3 (.int .u64 0)).set_ 4 (.int .u64 0)).set_ 5 (.slice none 0 0))
        have q0 := hZ.cell 0
        have q1 := hZ.cell 1
        have q2 := hZ.cell 2
        have q3 := hZ.cell 3
        have q4 := hZ.cell 4
        have q5 := hZ.cell 5
        have hBZ := ((((((HB2.out.setCell (p := ⟨W.heap.size, 0, none⟩) (Nat.le_refl _) (.int .i64 0)).setCell (p := ⟨W.heap.size, 1, none⟩) (Nat.le_refl _) (.int .i64 0)).setCell (p := ⟨W.heap.size, 2, none⟩) (Nat.le_refl _) (.bool false)).setCell (p := ⟨W.heap.size, 3, none⟩) (Nat.le_refl _) (.int .u64 0)).setCell (p := ⟨W.heap.size, 4, none⟩) (Nat.le_refl _) (.int .u64 0)).setCell (p := ⟨W.heap.size, 5, none⟩) (Nat.le_refl _) (.slice none 0 0))
        refine bodyPost_ret (v := .tuple #[noneV, .bool false]) (by simp [results, Try.results10, go_sem, noneV, frV, q0, q1, q2, q3, q4, q5]) rfl ⟨hBZ, ?_⟩
        rw [← HMM.out, ← HBD.out, if_neg (by rw [HBAD.out]; decide)]
  · intro a w h; exact h.elim
end Go.Proofs.Ytidfhdkalnaddaa
