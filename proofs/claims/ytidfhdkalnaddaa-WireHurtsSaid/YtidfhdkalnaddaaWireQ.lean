/- The laws of wire: what is put, what is got. -/
import Derived.Test.YtidfhdkalnaddaaWireP
namespace Go.Proofs.Ytidfhdkalnaddaa
open Go.RowKit

theorem small_of_right {f t : Int} {b : Bool} {s n : Nat} (h : rightF f t b s n = true) : (0 ≤ f ∧ f ≤ 15) ∧ (0 ≤ t ∧ t ≤ 15) ∧ n ≤ 4120 := by
  unfold rightF nodeB at h
  simp only [Bool.and_eq_true, decide_eq_true_eq] at h
  obtain ⟨⟨⟨h1, h2⟩, h3⟩, h4⟩ := h
  refine ⟨by omega, by omega, ?_⟩
  cases b with
  | true => simp at h4; exact h4.2
  | false => simp at h4; omega
namespace Law
set_option maxRecDepth 100000 in
set_option maxHeartbeats 4000000 in
theorem WirePuts (f t : Int) (b : Bool) (si ai : Int) (A : Option Addr) (n c : Nat) (z : List Int) (W : World) (wf : (Lit.int .i64 f).wf = true) (wt : (Lit.int .i64 t).wf = true) (ws : (Lit.int .u64 si).wf = true) (wa : (Lit.int .u64 ai).wf = true) (hz : IsRow .u8 W A n c z) :
    Calls Try.prog 3 #[.agg #[.int .i64 f, .int .i64 t, .bool b, .int .u64 si, .int .u64 ai, .slice A n c]] W fun e w' => e = .returned (.bool true) ∧ Below W.heap.size W w' := by
  obtain ⟨l, hl, hB, hn⟩ := bts_of_row hz
  have hs2 := u64_of_wf ws
  have ha2 := u64_of_wf wa
  clear hz wf wt ws wa
  obtain ⟨s, rfl⟩ := Int.eq_ofNat_of_zero_le hs2.1
  obtain ⟨a, rfl⟩ := Int.eq_ofNat_of_zero_le ha2.1
  have hs : s < 18446744073709551616 := by omega
  have ha : a < 18446744073709551616 := by omega
  clear hs2 ha2
  have HE0 : Hid (Below W.heap.size W (W.alloc (.cells #[.int .i64 f, .int .i64 t, .bool b, .int .u64 s, .int .u64 a, .slice A n c] 25))) := Lib.hid ((Below.refl _ W).alloc (Nat.le_refl _) _)
  have HX0 : Hid (Blk (W.alloc (.cells #[.int .i64 f, .int .i64 t, .bool b, .int .u64 s, .int .u64 a, .slice A n c] 25)) W.heap.size 25 #[.int .i64 f, .int .i64 t, .bool b, .int .u64 s, .int .u64 a, .slice A n c]) := Lib.hid (Blkf.new_at _ _ _ _ rfl)
  have HB := Lib.hid hB
  have HL := Lib.hid hl
  clear hB hl
  go_enter Try.func3, Try.ntmps3
  go_wp2_with fail
  refine (first16 _).mono ?_
  rintro e w1 ⟨rfl, hb⟩
  have HE1 := Lib.hid (HE0.out.trans (hb.mono HE0.out.size))
  have HX1 := Lib.hid (HX0.out.below hb HX0.out.lt)
  clear hb
  have x0 := HX1.out.cell 0
  have x1 := HX1.out.cell 1
  have x2 := HX1.out.cell 2
  have x3 := HX1.out.cell 3
  have x4 := HX1.out.cell 4
  have x5 := HX1.out.cell 5
  have xl := HX1.out.lt
  have xf := fun i => HX1.out.frozen i
  simp at x0 x1 x2 x3 x4 x5
  by_cases hbig : 5000 < n
  · have h5 : (5000 : Int) < (n : Int) := by omega
    go_wp2
    go_ret
    exact ⟨rfl, HE1.out⟩
  have h5 : ¬ (5000 : Int) < (n : Int) := by omega
  have hn5 : n ≤ 5000 := by omega
  clear hbig
  have HB1 := Lib.hid (bts_below HB.out HE1.out)
  cases hr : rightF f t b s n
  · have HR := Lib.hid hr
    clear hr
    go_wp2_with fail
    refine (wput_no f t b s a A n c _ hn HR.out).mono ?_
    rintro e w2 ⟨rfl, hb⟩
    have HE2 := Lib.hid (HE1.out.trans (hb.mono HE1.out.size))
    have HX2 := Lib.hid (HX1.out.below hb HX1.out.lt)
    clear hb
    clear x0 x1 x2 x3 x4 x5 xl xf
    have x0 := HX2.out.cell 0
    have x1 := HX2.out.cell 1
    have x2 := HX2.out.cell 2
    have x3 := HX2.out.cell 3
    have x4 := HX2.out.cell 4
    have x5 := HX2.out.cell 5
    have xl := HX2.out.lt
    have xf := fun i => HX2.out.frozen i
    simp at x0 x1 x2 x3 x4 x5
    go_wp2_with fail
    refine (rright_any f t b s a A n c _ hn).mono ?_
    rintro e w3 ⟨rfl, hb⟩
    rw [HR.out]
    have HE3 := Lib.hid (HE2.out.trans (hb.mono HE2.out.size))
    have HX3 := Lib.hid (HX2.out.below hb HX2.out.lt)
    clear hb
    clear x0 x1 x2 x3 x4 x5 xl xf
    have x0 := HX3.out.cell 0
    have x1 := HX3.out.cell 1
    have x2 := HX3.out.cell 2
    have x3 := HX3.out.cell 3
    have x4 := HX3.out.cell 4
    have x5 := HX3.out.cell 5
    have xl := HX3.out.lt
    have xf := fun i => HX3.out.frozen i
    simp at x0 x1 x2 x3 x4 x5
    go_wp2_with fail
    refine (right_any f t b s a A n c _ hn).mono ?_
    rintro e w4 ⟨rfl, hb⟩
    rw [HR.out]
    have HE4 := Lib.hid (HE3.out.trans (hb.mono HE3.out.size))
    clear hb
    go_wp2
    go_ret
    exact ⟨rfl, HE4.out⟩
  obtain ⟨⟨hf0, hf⟩, ⟨ht0, ht⟩, hn2⟩ := small_of_right hr
  obtain ⟨f, rfl⟩ := Int.eq_ofNat_of_zero_le hf0
  obtain ⟨t, rfl⟩ := Int.eq_ofNat_of_zero_le ht0
  have hf' : f ≤ 15 := by omega
  have ht' : t ≤ 15 := by omega
  have HR := Lib.hid hr
  clear hr hf0 ht0 hf ht
  go_wp2_with fail
  refine (wput_yes f t b s a A l n c _ hf' ht' hs ha HL.out hn5 HB1.out HR.out).mono ?_
  rintro e w2 ⟨v, rfl, ho, hb⟩
  have HE2 := Lib.hid (HE1.out.trans (hb.mono HE1.out.size))
  have HX2 := Lib.hid (HX1.out.below hb HX1.out.lt)
  have HB2 := Lib.hid (bts_below HB1.out hb)
  obtain ⟨L, hLe⟩ : ∃ L, L = plainL f t b s a l ++ bytesOf (sumV (plainL f t b s a l)) 4 := ⟨_, rfl⟩
  have hlt : ∀ i : Nat, L.getD i 0 < 256 := fun i => by rw [hLe]; exact append_lt (plain_lt f t s a l b hf' ht' HB.out.1) (bytesOf_lt _ _) i
  rw [← hLe] at ho
  have HLE := Lib.hid hLe
  have HLT := Lib.hid hlt
  clear hLe hlt
  obtain ⟨A1, c1, rfl, hB1, -⟩ := bts_own ho HLT.out rfl
  obtain ⟨m, hm⟩ : ∃ m, m = L.length := ⟨_, rfl⟩
  rw [← hm] at ho ⊢
  have HM := Lib.hid hm
  have hcap := own_cap ho
  have HT2 := Lib.hid hB1
  clear hb ho hB1 hm
  clear x0 x1 x2 x3 x4 x5 xl xf
  have x0 := HX2.out.cell 0
  have x1 := HX2.out.cell 1
  have x2 := HX2.out.cell 2
  have x3 := HX2.out.cell 3
  have x4 := HX2.out.cell 4
  have x5 := HX2.out.cell 5
  have xl := HX2.out.lt
  have xf := fun i => HX2.out.frozen i
  simp at x0 x1 x2 x3 x4 x5
  go_wp2_with fail
  refine (rright_any f t b s a A n c _ hn).mono ?_
  rintro e w3 ⟨rfl, hb⟩
  rw [HR.out]
  have HE3 := Lib.hid (HE2.out.trans (hb.mono HE2.out.size))
  have HX3 := Lib.hid (HX2.out.below hb HX2.out.lt)
  have HB3 := Lib.hid (bts_below HB2.out hb)
  have HT3 := Lib.hid (bts_below HT2.out hb)
  clear hb
  clear x0 x1 x2 x3 x4 x5 xl xf
  have x0 := HX3.out.cell 0
  have x1 := HX3.out.cell 1
  have x2 := HX3.out.cell 2
  have x3 := HX3.out.cell 3
  have x4 := HX3.out.cell 4
  have x5 := HX3.out.cell 5
  have xl := HX3.out.lt
  have xf := fun i => HX3.out.frozen i
  simp at x0 x1 x2 x3 x4 x5
  go_wp2_with fail
  refine (wget_yes f t b s a l A1 L m c1 _ HM.out.symm hcap HT3.out HLE.out hf' ht' hs ha (by rw [HL.out]; exact hn5) HB.out.1 (by rw [HL.out]; exact HR.out)).mono ?_
  rintro e w4 ⟨A4, c4, rfl, hd, hb⟩
  rw [HL.out]
  have hA4 : Below w4.heap.size w4 (w4.alloc (.cells #[.int .i64 f, .int .i64 t, .bool b, .int .u64 s, .int .u64 a, .slice A4 n c4] 25)) := (Below.refl _ _).alloc (Nat.le_refl _) _
  have hb5 := hb.trans (hA4.mono hb.size)
  have hY5 : Blk (w4.alloc (.cells #[.int .i64 f, .int .i64 t, .bool b, .int .u64 s, .int .u64 a, .slice A4 n c4] 25)) w4.heap.size 25 #[.int .i64 f, .int .i64 t, .bool b, .int .u64 s, .int .u64 a, .slice A4 n c4] := Blkf.new_at _ _ _ _ rfl
  have hX5 := HX3.out.below hb5 HX3.out.lt
  have HE5 := Lib.hid (HE3.out.trans (hb5.mono HE3.out.size))
  have HB5 := Lib.hid (bts_below HB3.out hb5)
  have HT5 := Lib.hid (bts_below HT3.out hb5)
  have HD5 := Lib.hid (bts_below hd hA4)
  obtain ⟨g, hg⟩ : ∃ g, g = w4.heap.size := ⟨_, rfl⟩
  unfold frV
  go_wp2_with fail
  rw [← hg] at hY5 ⊢
  generalize w4.alloc (.cells #[.int .i64 f, .int .i64 t, .bool b, .int .u64 s, .int .u64 a, .slice A4 n c4] 25) = w5 at *
  have HX5 := Lib.hid hX5
  have HY5 := Lib.hid hY5
  clear hA4 hb5 hY5 hX5 hd hb hg
  clear x0 x1 x2 x3 x4 x5 xl xf
  have u0 := fun W' (h : Ext w5.drew W') => (h.cell (p := ⟨W.heap.size, 0, none⟩) HX5.out.lt).trans (HX5.out.cell 0)
  have u1 := fun W' (h : Ext w5.drew W') => (h.cell (p := ⟨W.heap.size, 1, none⟩) HX5.out.lt).trans (HX5.out.cell 1)
  have u2 := fun W' (h : Ext w5.drew W') => (h.cell (p := ⟨W.heap.size, 2, none⟩) HX5.out.lt).trans (HX5.out.cell 2)
  have u3 := fun W' (h : Ext w5.drew W') => (h.cell (p := ⟨W.heap.size, 3, none⟩) HX5.out.lt).trans (HX5.out.cell 3)
  have u4 := fun W' (h : Ext w5.drew W') => (h.cell (p := ⟨W.heap.size, 4, none⟩) HX5.out.lt).trans (HX5.out.cell 4)
  have u5 := fun W' (h : Ext w5.drew W') => (h.cell (p := ⟨W.heap.size, 5, none⟩) HX5.out.lt).trans (HX5.out.cell 5)
  simp at u0 u1 u2 u3 u4 u5
  have hcv : ∀ W', Ext w5.drew W' → (convert 23 9 (.slice A1 m c1)).run Try.prog W' = .ok (.string (strB L)) W' := fun W' h => conv_bts (bts_ext HT5.out h) HM.out.symm
  refine wp_region_plan [(0, false), (1, true), (2, false), (3, false), (4, false), (5, false), (6, false), (7, false), (8, false), (9, false), (10, true), (11, false), (12, false), (13, false), (14, false), (15, false), (16, false), (17, false), (18, false), (19, true), (20, false), (21, false), (22, false), (23, false), (24, true), (25, false), (26, false)] (by kernel_rfl) (by kernel_rfl) (fun _ d _ _ _ h => by cases d <;> exact h) ?_
  iterate 1 (refine plan_take (v := ?_) rfl (by kernel_rfl) ?_ ?_; rotate_left; (focus (intro w' hw'; go_simp; try with_reducible rfl)); simp only [Act.put, List.setIfInBounds_toArray, List.set_cons_zero, List.set_cons_succ])
  clear u0 u1 u2 u3 u4 u5
  clear hcv
  refine plan_call rfl (by kernel_rfl) (by go_simp; exact ⟨rfl, rfl⟩) ?_
  refine (right_any f t b s a A n c _ hn).mono ?_
  rintro e w6 ⟨rfl, hb⟩
  rw [HR.out]
  have HE6 := Lib.hid (HE5.out.drew.trans (hb.mono HE5.out.size))
  have HX6 := Lib.hid (HX5.out.drew.below hb HX5.out.lt)
  have HY6 := Lib.hid (HY5.out.drew.below hb HY5.out.lt)
  have HB6 := Lib.hid (bts_below (w := w5.drew) HB5.out hb)
  have HT6 := Lib.hid (bts_below (w := w5.drew) HT5.out hb)
  have HD6 := Lib.hid (bts_below (w := w5.drew) HD5.out hb)
  refine ⟨_, rfl, hb, ?_⟩
  simp only [Act.put, List.setIfInBounds_toArray, List.set_cons_zero, List.set_cons_succ]
  clear hb
  have u0 := fun W' (h : Ext w6 W') => (h.cell (p := ⟨W.heap.size, 0, none⟩) HX6.out.lt).trans (HX6.out.cell 0)
  have u1 := fun W' (h : Ext w6 W') => (h.cell (p := ⟨W.heap.size, 1, none⟩) HX6.out.lt).trans (HX6.out.cell 1)
  have u2 := fun W' (h : Ext w6 W') => (h.cell (p := ⟨W.heap.size, 2, none⟩) HX6.out.lt).trans (HX6.out.cell 2)
  have u3 := fun W' (h : Ext w6 W') => (h.cell (p := ⟨W.heap.size, 3, none⟩) HX6.out.lt).trans (HX6.out.cell 3)
  have u4 := fun W' (h : Ext w6 W') => (h.cell (p := ⟨W.heap.size, 4, none⟩) HX6.out.lt).trans (HX6.out.cell 4)
  have u5 := fun W' (h : Ext w6 W') => (h.cell (p := ⟨W.heap.size, 5, none⟩) HX6.out.lt).trans (HX6.out.cell 5)
  simp at u0 u1 u2 u3 u4 u5
  have hcv : ∀ W', Ext w6 W' → (convert 23 9 (.slice A1 m c1)).run Try.prog W' = .ok (.string (strB L)) W' := fun W' h => conv_bts (bts_below HT6.out h) HM.out.symm
  iterate 8 (refine plan_take (v := ?_) rfl (by kernel_rfl) ?_ ?_; rotate_left; (focus (intro w' hw'; go_simp; try with_reducible rfl)); simp only [Act.put, List.setIfInBounds_toArray, List.set_cons_zero, List.set_cons_succ])
  clear u0 u1 u2 u3 u4 u5
  clear hcv
  refine plan_call rfl (by kernel_rfl) (by go_simp; exact ⟨rfl, rfl⟩) ?_
  refine (rput_any f t b s a A l n c _ HL.out hf' ht' hs ha hn5 HB6.out).mono ?_
  rintro e w7 ⟨rfl, hb⟩
  rw [← HLE.out]
  have HE7 := Lib.hid (HE6.out.trans (hb.mono HE6.out.size))
  have HX7 := Lib.hid (HX6.out.below hb HX6.out.lt)
  have HY7 := Lib.hid (HY6.out.below hb HY6.out.lt)
  have HB7 := Lib.hid (bts_below HB6.out hb)
  have HD7 := Lib.hid (bts_below HD6.out hb)
  refine ⟨_, rfl, hb, ?_⟩
  simp only [Act.put, List.setIfInBounds_toArray, List.set_cons_zero, List.set_cons_succ]
  clear hb
  have u0 := fun W' (h : Ext w7 W') => (h.cell (p := ⟨W.heap.size, 0, none⟩) HX7.out.lt).trans (HX7.out.cell 0)
  have u1 := fun W' (h : Ext w7 W') => (h.cell (p := ⟨W.heap.size, 1, none⟩) HX7.out.lt).trans (HX7.out.cell 1)
  have u2 := fun W' (h : Ext w7 W') => (h.cell (p := ⟨W.heap.size, 2, none⟩) HX7.out.lt).trans (HX7.out.cell 2)
  have u3 := fun W' (h : Ext w7 W') => (h.cell (p := ⟨W.heap.size, 3, none⟩) HX7.out.lt).trans (HX7.out.cell 3)
  have u4 := fun W' (h : Ext w7 W') => (h.cell (p := ⟨W.heap.size, 4, none⟩) HX7.out.lt).trans (HX7.out.cell 4)
  have u5 := fun W' (h : Ext w7 W') => (h.cell (p := ⟨W.heap.size, 5, none⟩) HX7.out.lt).trans (HX7.out.cell 5)
  simp at u0 u1 u2 u3 u4 u5
  have v0 := fun W' (h : Ext w7 W') => (h.cell (p := ⟨g, 0, none⟩) HY7.out.lt).trans (HY7.out.cell 0)
  have v1 := fun W' (h : Ext w7 W') => (h.cell (p := ⟨g, 1, none⟩) HY7.out.lt).trans (HY7.out.cell 1)
  have v2 := fun W' (h : Ext w7 W') => (h.cell (p := ⟨g, 2, none⟩) HY7.out.lt).trans (HY7.out.cell 2)
  have v3 := fun W' (h : Ext w7 W') => (h.cell (p := ⟨g, 3, none⟩) HY7.out.lt).trans (HY7.out.cell 3)
  have v4 := fun W' (h : Ext w7 W') => (h.cell (p := ⟨g, 4, none⟩) HY7.out.lt).trans (HY7.out.cell 4)
  have v5 := fun W' (h : Ext w7 W') => (h.cell (p := ⟨g, 5, none⟩) HY7.out.lt).trans (HY7.out.cell 5)
  simp at v0 v1 v2 v3 v4 v5
  iterate 8 (refine plan_take (v := ?_) rfl (by kernel_rfl) ?_ ?_; rotate_left; (focus (intro w' hw'; go_simp; try with_reducible rfl)); simp only [Act.put, List.setIfInBounds_toArray, List.set_cons_zero, List.set_cons_succ])
  clear u0 u1 u2 u3 u4 u5 v0 v1 v2 v3 v4 v5
  refine plan_call rfl (by kernel_rfl) (by go_simp; exact ⟨rfl, rfl⟩) ?_
  refine (rsame_yes f t b s a A4 A l n c4 c _ HL.out HD7.out HB7.out).mono ?_
  rintro e w8 ⟨rfl, hb⟩
  have HE8 := Lib.hid (HE7.out.trans (hb.mono HE7.out.size))
  have HX8 := Lib.hid (HX7.out.below hb HX7.out.lt)
  have HY8 := Lib.hid (HY7.out.below hb HY7.out.lt)
  have HB8 := Lib.hid (bts_below HB7.out hb)
  have HD8 := Lib.hid (bts_below HD7.out hb)
  refine ⟨_, rfl, hb, ?_⟩
  simp only [Act.put, List.setIfInBounds_toArray, List.set_cons_zero, List.set_cons_succ]
  clear hb
  have u0 := fun W' (h : Ext w8 W') => (h.cell (p := ⟨W.heap.size, 0, none⟩) HX8.out.lt).trans (HX8.out.cell 0)
  have u1 := fun W' (h : Ext w8 W') => (h.cell (p := ⟨W.heap.size, 1, none⟩) HX8.out.lt).trans (HX8.out.cell 1)
  have u2 := fun W' (h : Ext w8 W') => (h.cell (p := ⟨W.heap.size, 2, none⟩) HX8.out.lt).trans (HX8.out.cell 2)
  have u3 := fun W' (h : Ext w8 W') => (h.cell (p := ⟨W.heap.size, 3, none⟩) HX8.out.lt).trans (HX8.out.cell 3)
  have u4 := fun W' (h : Ext w8 W') => (h.cell (p := ⟨W.heap.size, 4, none⟩) HX8.out.lt).trans (HX8.out.cell 4)
  have u5 := fun W' (h : Ext w8 W') => (h.cell (p := ⟨W.heap.size, 5, none⟩) HX8.out.lt).trans (HX8.out.cell 5)
  simp at u0 u1 u2 u3 u4 u5
  have v0 := fun W' (h : Ext w8 W') => (h.cell (p := ⟨g, 0, none⟩) HY8.out.lt).trans (HY8.out.cell 0)
  have v1 := fun W' (h : Ext w8 W') => (h.cell (p := ⟨g, 1, none⟩) HY8.out.lt).trans (HY8.out.cell 1)
  have v2 := fun W' (h : Ext w8 W') => (h.cell (p := ⟨g, 2, none⟩) HY8.out.lt).trans (HY8.out.cell 2)
  have v3 := fun W' (h : Ext w8 W') => (h.cell (p := ⟨g, 3, none⟩) HY8.out.lt).trans (HY8.out.cell 3)
  have v4 := fun W' (h : Ext w8 W') => (h.cell (p := ⟨g, 4, none⟩) HY8.out.lt).trans (HY8.out.cell 4)
  have v5 := fun W' (h : Ext w8 W') => (h.cell (p := ⟨g, 5, none⟩) HY8.out.lt).trans (HY8.out.cell 5)
  simp at v0 v1 v2 v3 v4 v5
  iterate 4 (refine plan_take (v := ?_) rfl (by kernel_rfl) ?_ ?_; rotate_left; (focus (intro w' hw'; go_simp; try with_reducible rfl)); simp only [Act.put, List.setIfInBounds_toArray, List.set_cons_zero, List.set_cons_succ])
  clear u0 u1 u2 u3 u4 u5 v0 v1 v2 v3 v4 v5
  refine plan_call rfl (by kernel_rfl) (by go_simp; exact ⟨rfl, rfl⟩) ?_
  refine (same_yes f t b s a A4 A l n c4 c _ HL.out HD8.out HB8.out).mono ?_
  rintro e w9 ⟨rfl, hb⟩
  have HE9 := Lib.hid (HE8.out.trans (hb.mono HE8.out.size))
  refine ⟨_, rfl, hb, ?_⟩
  simp only [Act.put, List.setIfInBounds_toArray, List.set_cons_zero, List.set_cons_succ]
  clear hb
  iterate 2 (refine plan_take (v := ?_) rfl (by kernel_rfl) ?_ ?_; rotate_left; (focus (intro w' hw'; go_simp; try with_reducible rfl)); simp only [Act.put, List.setIfInBounds_toArray, List.set_cons_zero, List.set_cons_succ])
  refine plan_end ?_
  go_wp2
  go_ret
  exact ⟨rfl, HE9.out⟩
end Law
end Go.Proofs.Ytidfhdkalnaddaa
