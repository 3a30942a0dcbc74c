/- CheckLinear. -/
import Derived.Test.YtdgblhaihfccfaaCheckH
import Derived.Laws.MakeOwn
namespace Go.Proofs.Ytdgblhaihfccfaa
open Go.RowKit

/-- The first k of n bytes laid over one another, the others noughts. -/
def mixL (a b : List Nat) (n k : Nat) : List Nat := (List.range n).map fun i => if i < k then a.getD i 0 ^^^ b.getD i 0 else 0
theorem mixL_length (a b : List Nat) (n k : Nat) : (mixL a b n k).length = n := by simp [mixL]
theorem mixL_get (a b : List Nat) (n k i : Nat) (hi : i < n) : (mixL a b n k)[i]? = some (if i < k then a.getD i 0 ^^^ b.getD i 0 else 0) := by
  unfold mixL; rw [List.getElem?_map, List.getElem?_range hi]; rfl
theorem mixL_zero (a b : List Nat) (n : Nat) : mixL a b n 0 = List.replicate n 0 := by
  apply List.ext_getElem?
  intro i
  rcases Nat.lt_or_ge i n with h | h
  · rw [mixL_get _ _ _ _ _ h, List.getElem?_replicate, if_pos h]; rfl
  · rw [List.getElem?_eq_none (by rw [mixL_length]; exact h), List.getElem?_eq_none (by simpa using h)]
theorem mixL_step (a b : List Nat) (n k : Nat) (hk : k < n) : (mixL a b n k).set k (a.getD k 0 ^^^ b.getD k 0) = mixL a b n (k + 1) := by
  apply List.ext_getElem?
  intro i
  rcases Nat.lt_or_ge i n with h | h
  · rw [mixL_get _ _ _ _ _ h]
    by_cases he : k = i
    · subst he
      rw [List.getElem?_set_self (by rw [mixL_length]; exact hk), if_pos (by omega)]
    · rw [List.getElem?_set_ne he, mixL_get _ _ _ _ _ h]
      by_cases h2 : i < k
      · rw [if_pos h2, if_pos (by omega)]
      · rw [if_neg h2, if_neg (by omega)]
  · rw [List.getElem?_eq_none (by simp [mixL_length]; exact h), List.getElem?_eq_none (by rw [mixL_length]; exact h)]
theorem mixL_all (a b : List Nat) (n : Nat) (ha : n ≤ a.length) (hb : n ≤ b.length) : mixL a b n n = List.zipWith (· ^^^ ·) (a.take n) (b.take n) := by
  apply List.ext_getElem?
  intro i
  rcases Nat.lt_or_ge i n with h | h
  · rw [mixL_get _ _ _ _ _ h, if_pos h, List.getElem?_zipWith, List.getElem?_take, if_pos h, List.getElem?_take, if_pos h, List.getD_eq_getElem?_getD, List.getD_eq_getElem?_getD, List.getElem?_eq_getElem (by omega), List.getElem?_eq_getElem (by omega)]
    rfl
  · rw [List.getElem?_eq_none (by rw [mixL_length]; exact h), List.getElem?_eq_none (by simp; omega)]
theorem mixL_lt (a b : List Nat) (n k : Nat) (ha : ∀ i : Nat, a.getD i 0 < 256) (hb : ∀ i : Nat, b.getD i 0 < 256) (i : Nat) : (mixL a b n k).getD i 0 < 256 := by
  rw [List.getD_eq_getElem?_getD]
  rcases Nat.lt_or_ge i n with h | h
  · rw [mixL_get _ _ _ _ _ h]
    simp only [Option.getD_some]
    split
    · exact Nat.xor_lt_two_pow (n := 8) (ha i) (hb i)
    · decide
  · rw [List.getElem?_eq_none (by rw [mixL_length]; exact h)]; decide
theorem mix_sum (a b : List Nat) (n : Nat) (ha : ∀ i : Nat, a.getD i 0 < 256) (hb : ∀ i : Nat, b.getD i 0 < 256) (hla : n ≤ a.length) (hlb : n ≤ b.length) :
    sumV (a.take n) ^^^ sumV (b.take n) ^^^ sumV (mixL a b n n) = sumV (mixL a b n 0) := by
  have hm := mixL_lt a b n n ha hb
  rw [mixL_all a b n hla hlb] at hm ⊢
  have h := sum_lin (a.take n) (b.take n) (fun i => getD_take_lt a n i ha) (fun i => getD_take_lt b n i hb) hm (by simp; omega)
  rw [h, mixL_zero]
  congr 2
  simp; omega
theorem made_own (W : World) (n : Nat) (hn : n ≤ 1000) (a b : List Nat) : (W.alloc (.cells (madeCells #[Value.int .u8 0] n) 5)).ownsRow W.heap.size 5 1 (.slice (some ⟨W.heap.size, 0, none⟩) n n) n ((mixL a b n 0).map bv) := by
  have h := World.ownsRow_lit (base := W.heap.size) (e := 5) (size := 1) W (madeCells #[Value.int .u8 0] n) n (Nat.le_refl _) (by unfold maxLen; omega) (by rw [size_madeCells]; omega)
  rw [toList_madeCells_one] at h
  rw [mixL_zero, List.map_replicate]
  exact h
theorem u8_xor_ (a b : Nat) (ha : a < 256) (hb : b < 256) : bits .xor .u8 (a : Int) (b : Int) = ((a ^^^ b : Nat) : Int) := u8_xor a b ha hb
namespace Law
set_option maxHeartbeats 8000000 in
theorem lin_a (A B : Option Addr) (la lb : List Nat) (ca cb : Nat) (W : World) (hA : Bts W A la) (hB : Bts W B lb) (h1 : la.length ≤ 1000) (h2 : lb.length ≤ 1000) (hca : la.length ≤ ca) (hcb : lb.length ≤ cb) (hcase : ¬ lb.length < la.length) :
    Calls Try.prog 5 #[.slice A la.length ca, .slice B lb.length cb] W fun e w' => e = .returned (.bool true) ∧ Below W.heap.size W w' := by
  have HA := Lib.hid hA
  have HB := Lib.hid hB
  have hna : la.length ≤ la.length := by omega
  have hnb : la.length ≤ lb.length := by omega
  have hnca : la.length ≤ ca := by omega
  have hncb : la.length ≤ cb := by omega
  have e1 : decide ((1000 : Int) < (la.length : Int)) = false := by simp; omega
  have e2 : decide ((1000 : Int) < (lb.length : Int)) = false := by simp; omega
  have hsum := mix_sum la lb la.length hA.1 hB.1 hna hnb
  rw [List.take_length] at hsum
  have HSUM := Lib.hid hsum
  clear hsum
  have HTA : Hid (la.length = la.length) := Lib.hid (rfl)
  have HTB : Hid ((lb.take la.length).length = la.length) := Lib.hid (by rw [List.length_take]; omega)
  have HNN := Lib.hid (And.intro hna hnb)
  have HN1 : Hid (la.length ≤ 1000) := Lib.hid (by omega)
  obtain ⟨i0, hi0, hz0, hz1, hz2⟩ := info_parts info5
  have hmk : ∀ W, (Instr.makeSlice 22 (.int .i64 (la.length : Int)) (.int .i64 (la.length : Int))).run Try.prog W = .ok (.slice (some ⟨W.heap.size, 0, none⟩) la.length la.length) (W.alloc (.cells (madeCells #[Value.int .u8 0] la.length) 5)) := fun W => by
    have h := run_make (P := Try.prog) W 22 5 i0 _ Try.underlying22 hi0 hz0 .i64 .i64 (la.length : Int) (la.length : Int) (by omega) (by omega) (by rw [hz2]; omega) (by omega)
    rw [hz1] at h
    simp at h
    exact h
  clear hA hB hna hnb hi0 hz0 hz1 hz2
  go_enter Try.func5, Try.ntmps5
  go_wp2_with fail
  refine (first_ok _).mono ?_
  rintro e w1 ⟨rfl, hb⟩
  have HB1 := Lib.hid hb
  clear hb
  go_wp2_with fail
  have HMK := Lib.hid hmk
  clear hmk
  go_loopw [27] (fun i wr => ∃ k : Nat, k ≤ la.length ∧ i = .int .i64 k ∧ wr.ownsRow w1.heap.size 5 1 (.slice (some ⟨w1.heap.size, 0, none⟩) la.length la.length) la.length ((mixL la lb la.length k).map bv) ∧ Below w1.heap.size w1 wr ∧ w1.heap.size < wr.heap.size) (fun i _ => la.length - (intOf i).toNat)
  case atStart => exact ⟨0, by omega, rfl, made_own w1 _ HN1.out la lb, by go_grown, by simp⟩
  case round =>
    obtain ⟨k, hk, rfl, hown, hbw, hlt⟩ := hrel
    have HO := Lib.hid hown
    have HW := Lib.hid hbw
    clear hown hbw
    by_cases hkn : k < la.length
    · have hka : k < la.length := by have := HNN.out; omega
      have hkb : k < lb.length := by have := HNN.out; omega
      obtain ⟨ba, oa, rfl, hc0⟩ := HA.out.2 (by omega)
      have hca0 := hc0 k hka
      clear hc0
      obtain ⟨bb, ob, rfl, hc0⟩ := HB.out.2 (by omega)
      have hcb0 := hc0 k hkb
      clear hc0
      have hlA : ba < W.heap.size := cell_lt hca0
      have hlB : bb < W.heap.size := cell_lt hcb0
      have hsz := HB1.out.size
      have hgA := (HB1.out.cell (p := ⟨ba, oa + k, none⟩) hlA).trans hca0
      have hgB := (HB1.out.cell (p := ⟨bb, ob + k, none⟩) hlB).trans hcb0
      have hrA := (HW.out.cell (p := ⟨ba, oa + k, none⟩) (by show ba < _; omega)).trans hgA
      have hrB := (HW.out.cell (p := ⟨bb, ob + k, none⟩) (by show bb < _; omega)).trans hgB
      have hcX : ∃ u, wr.cell? ⟨w1.heap.size, k, none⟩ = some u := ⟨_, (HO.out.cellAt k (by omega)).trans (by rw [List.getElem?_map, mixL_get _ _ _ _ _ hkn]; rfl)⟩
      obtain ⟨u, hcX⟩ := hcX
      have hfX := HO.out.frozenAt k
      have hxA := HA.out.1 k
      have hxB := HB.out.1 k
      have HST := Lib.hid (mixL_step la lb la.length k hkn)
      have HV := Lib.hid (u8_xor _ _ hxA hxB)
      generalize la.getD k 0 = xa at hxA hrA hca0 hgA HST HV
      generalize lb.getD k 0 = xb at hxB hrB hcb0 hgB HST HV
      have hwk : IntKind.i64.wrap (k : Int) = (k : Int) := IntWalk.i64_in _ (by have := HN1.out; omega)
      have hkna : (k : Int) < (la.length : Int) := by omega
      have hknb : (k : Int) < (lb.length : Int) := by omega
      have hbaW : ba < wr.heap.size := by omega
      have hbbW : bb < wr.heap.size := by omega
      clear hca0 hcb0 hgA hgB hlA hlB hsz
      go_wp2_with fail
      have hsA := fun W' (h : Ext wr.drew W') => (h.cell (p := ⟨ba, oa + k, none⟩) hbaW).trans hrA
      have hsB := fun W' (h : Ext wr.drew W') => (h.cell (p := ⟨bb, ob + k, none⟩) hbbW).trans hrB
      refine wp_region_plan [(0, false), (1, false), (2, false), (3, false), (4, false), (5, false), (6, false), (7, false), (8, false), (9, false), (10, false), (11, false), (12, true)] (by kernel_rfl) (by kernel_rfl) (fun _ d _ _ _ h => by cases d <;> exact h) ?_
      iterate 12 (refine plan_take (v := ?_) rfl (by kernel_rfl) ?_ ?_; rotate_left; (focus (intro w' hw'; go_simp; try with_reducible rfl)); simp only [Act.put, List.setIfInBounds_toArray, List.set_cons_zero, List.set_cons_succ])
      clear hsA hsB
      refine plan_last rfl (by kernel_rfl) (by kernel_rfl) (fun K hK => ?_)
      go_simp
      refine hK _ _ ?_
      refine plan_end ?_
      go_wp2
      go_roundw
      case rel =>
        refine ⟨k + 1, by omega, by go_num, ?_, (HW.out.drew.setCell (Nat.le_refl _) _), by simpa using hlt⟩
        have ho := (World.ownsRow.stored HO.out k (.int .u8 (((xa ^^^ xb : Nat)) : Int))).1
        rw [set_bv, HST.out] at ho
        rw [HV.out]
        exact ho
      case measure => simp [intOf]; omega
    · obtain rfl : k = la.length := by omega
      have hzz : w1.heap.size ≤ wr.heap.size := by omega
      have HTA1 := Lib.hid (bts_below (bts_below HA.out HB1.out) HW.out)
      have HTB1 := Lib.hid (bts_below (bts_below HB.out HB1.out) HW.out)
      obtain ⟨A3, c3, hv3, hB3, hA3⟩ := bts_own HO.out (mixL_lt la lb la.length la.length HA.out.1 HB.out.1) (mixL_length _ _ _ _).symm
      rw [mixL_length] at hv3
      injection hv3 with hv3 hq3 hc3
      subst hv3
      subst hc3
      clear hq3
      have HX := Lib.hid hB3
      clear hB3 hA3
      have hmk := HMK.out
      have HU1 := Lib.hid (u32_xor _ _ (sum_lt la) (sum_lt (lb.take la.length)))
      have HU2 := Lib.hid (u32_xor _ _ (xor32 (sum_lt la) (sum_lt (lb.take la.length))) (sum_lt (mixL la lb la.length la.length)))
      go_wp2_with fail
      refine wp_region_plan [(0, false), (1, false), (2, false), (3, false), (4, false), (5, false), (6, false), (7, false), (8, false), (9, false), (10, false), (11, false), (12, false), (13, true), (14, false), (15, false), (16, false)] (by kernel_rfl) (by kernel_rfl) (fun _ d _ _ _ h => by cases d <;> exact h) ?_
      iterate 3 (refine plan_take (v := ?_) rfl (by kernel_rfl) ?_ ?_; rotate_left; (focus (intro w' hw'; go_simp; try with_reducible rfl)); simp only [Act.put, List.setIfInBounds_toArray, List.set_cons_zero, List.set_cons_succ])
      refine plan_quiet rfl (by kernel_rfl) (fun w' => by go_simp; all_goals (first | exact ⟨rfl, rfl⟩ | rfl)) (fun w' hw' => sum_at A la la.length ca w' rfl (by have := HN1.out; omega) (bts_ext HTA1.out hw')) ?_
      simp only [Act.put, List.setIfInBounds_toArray, List.set_cons_zero, List.set_cons_succ]
      iterate 3 (refine plan_take (v := ?_) rfl (by kernel_rfl) ?_ ?_; rotate_left; (focus (intro w' hw'; go_simp; try with_reducible rfl)); simp only [Act.put, List.setIfInBounds_toArray, List.set_cons_zero, List.set_cons_succ])
      refine plan_quiet rfl (by kernel_rfl) (fun w' => by go_simp; all_goals (first | exact ⟨rfl, rfl⟩ | rfl)) (fun w' hw' => sum_at B (lb.take la.length) la.length cb w' HTB.out (by have := HN1.out; omega) (bts_take (bts_ext HTB1.out hw'))) ?_
      simp only [Act.put, List.setIfInBounds_toArray, List.set_cons_zero, List.set_cons_succ]
      have hu1 := HU1.out
      iterate 1 (refine plan_take (v := ?_) rfl (by kernel_rfl) ?_ ?_; rotate_left; (focus (intro w' hw'; go_simp; try with_reducible rfl)); simp only [Act.put, List.setIfInBounds_toArray, List.set_cons_zero, List.set_cons_succ])
      clear hu1
      iterate 1 (refine plan_take (v := ?_) rfl (by kernel_rfl) ?_ ?_; rotate_left; (focus (intro w' hw'; go_simp; try with_reducible rfl)); simp only [Act.put, List.setIfInBounds_toArray, List.set_cons_zero, List.set_cons_succ])
      refine plan_quiet rfl (by kernel_rfl) (fun w' => by go_simp; all_goals (first | exact ⟨rfl, rfl⟩ | rfl)) (fun w' hw' => sum_at _ (mixL la lb la.length la.length) la.length _ w' (mixL_length _ _ _ _) (by have := HN1.out; omega) (bts_ext HX.out hw')) ?_
      simp only [Act.put, List.setIfInBounds_toArray, List.set_cons_zero, List.set_cons_succ]
      have hu2 := HU2.out
      iterate 1 (refine plan_take (v := ?_) rfl (by kernel_rfl) ?_ ?_; rotate_left; (focus (intro w' hw'; go_simp; try with_reducible rfl)); simp only [Act.put, List.setIfInBounds_toArray, List.set_cons_zero, List.set_cons_succ])
      clear hu2
      iterate 1 (refine plan_take (v := ?_) rfl (by kernel_rfl) ?_ ?_; rotate_left; (focus (intro w' hw'; go_simp; try with_reducible rfl)); simp only [Act.put, List.setIfInBounds_toArray, List.set_cons_zero, List.set_cons_succ])
      refine plan_turn rfl (by kernel_rfl) (fun K hK => ?_)
      go_simp
      refine hK _ _ ⟨(Ext.refl _).alloc (Nat.le_refl _) _, ?_⟩
      have HO0 := Lib.hid (made_own wr.drew la.length HN1.out la lb)
      obtain ⟨A4, c4, hv4, hB4, hA4⟩ := bts_own HO0.out (mixL_lt la lb la.length 0 HA.out.1 HB.out.1) (mixL_length _ _ _ _).symm
      rw [mixL_length] at hv4
      injection hv4 with hv4 hq4 hc4
      subst hv4
      subst hc4
      clear hq4
      have HX4 := Lib.hid hB4
      clear hB4 hA4 hmk
      refine plan_quiet rfl (by kernel_rfl) (fun w' => by go_simp; all_goals (first | exact ⟨rfl, rfl⟩ | rfl)) (fun w' hw' => sum_at _ (mixL la lb la.length 0) la.length _ w' (mixL_length _ _ _ _) (by have := HN1.out; omega) (bts_below HX4.out hw')) ?_
      simp only [Act.put, List.setIfInBounds_toArray, List.set_cons_zero, List.set_cons_succ]
      rw [HSUM.out]
      iterate 2 (refine plan_take (v := ?_) rfl (by kernel_rfl) ?_ ?_; rotate_left; (focus (intro w' hw'; go_simp; try with_reducible rfl)); simp only [Act.put, List.setIfInBounds_toArray, List.set_cons_zero, List.set_cons_succ])
      refine plan_end ?_
      go_wp2
      go_ret
      refine ⟨by simp, ?_⟩
      have b1 := HB1.out.trans (HW.out.mono HB1.out.size)
      exact b1.drew.alloc (Nat.le_trans HB1.out.size (by simpa using hzz)) _
set_option maxHeartbeats 8000000 in
theorem lin_b (A B : Option Addr) (la lb : List Nat) (ca cb : Nat) (W : World) (hA : Bts W A la) (hB : Bts W B lb) (h1 : la.length ≤ 1000) (h2 : lb.length ≤ 1000) (hca : la.length ≤ ca) (hcb : lb.length ≤ cb) (hcase : lb.length < la.length) :
    Calls Try.prog 5 #[.slice A la.length ca, .slice B lb.length cb] W fun e w' => e = .returned (.bool true) ∧ Below W.heap.size W w' := by
  have HA := Lib.hid hA
  have HB := Lib.hid hB
  have hna : lb.length ≤ la.length := by omega
  have hnb : lb.length ≤ lb.length := by omega
  have hnca : lb.length ≤ ca := by omega
  have hncb : lb.length ≤ cb := by omega
  have e1 : decide ((1000 : Int) < (la.length : Int)) = false := by simp; omega
  have e2 : decide ((1000 : Int) < (lb.length : Int)) = false := by simp; omega
  have hsum := mix_sum la lb lb.length hA.1 hB.1 hna hnb
  rw [List.take_length] at hsum
  have HSUM := Lib.hid hsum
  clear hsum
  have HTA : Hid ((la.take lb.length).length = lb.length) := Lib.hid (by rw [List.length_take]; omega)
  have HTB : Hid (lb.length = lb.length) := Lib.hid (rfl)
  have HNN := Lib.hid (And.intro hna hnb)
  have HN1 : Hid (lb.length ≤ 1000) := Lib.hid (by omega)
  obtain ⟨i0, hi0, hz0, hz1, hz2⟩ := info_parts info5
  have hmk : ∀ W, (Instr.makeSlice 22 (.int .i64 (lb.length : Int)) (.int .i64 (lb.length : Int))).run Try.prog W = .ok (.slice (some ⟨W.heap.size, 0, none⟩) lb.length lb.length) (W.alloc (.cells (madeCells #[Value.int .u8 0] lb.length) 5)) := fun W => by
    have h := run_make (P := Try.prog) W 22 5 i0 _ Try.underlying22 hi0 hz0 .i64 .i64 (lb.length : Int) (lb.length : Int) (by omega) (by omega) (by rw [hz2]; omega) (by omega)
    rw [hz1] at h
    simp at h
    exact h
  clear hA hB hna hnb hi0 hz0 hz1 hz2
  go_enter Try.func5, Try.ntmps5
  go_wp2_with fail
  refine (first_ok _).mono ?_
  rintro e w1 ⟨rfl, hb⟩
  have HB1 := Lib.hid hb
  clear hb
  go_wp2_with fail
  have HMK := Lib.hid hmk
  clear hmk
  go_loopw [27] (fun i wr => ∃ k : Nat, k ≤ lb.length ∧ i = .int .i64 k ∧ wr.ownsRow w1.heap.size 5 1 (.slice (some ⟨w1.heap.size, 0, none⟩) lb.length lb.length) lb.length ((mixL la lb lb.length k).map bv) ∧ Below w1.heap.size w1 wr ∧ w1.heap.size < wr.heap.size) (fun i _ => lb.length - (intOf i).toNat)
  case atStart => exact ⟨0, by omega, rfl, made_own w1 _ HN1.out la lb, by go_grown, by simp⟩
  case round =>
    obtain ⟨k, hk, rfl, hown, hbw, hlt⟩ := hrel
    have HO := Lib.hid hown
    have HW := Lib.hid hbw
    clear hown hbw
    by_cases hkn : k < lb.length
    · have hka : k < la.length := by have := HNN.out; omega
      have hkb : k < lb.length := by have := HNN.out; omega
      obtain ⟨ba, oa, rfl, hc0⟩ := HA.out.2 (by omega)
      have hca0 := hc0 k hka
      clear hc0
      obtain ⟨bb, ob, rfl, hc0⟩ := HB.out.2 (by omega)
      have hcb0 := hc0 k hkb
      clear hc0
      have hlA : ba < W.heap.size := cell_lt hca0
      have hlB : bb < W.heap.size := cell_lt hcb0
      have hsz := HB1.out.size
      have hgA := (HB1.out.cell (p := ⟨ba, oa + k, none⟩) hlA).trans hca0
      have hgB := (HB1.out.cell (p := ⟨bb, ob + k, none⟩) hlB).trans hcb0
      have hrA := (HW.out.cell (p := ⟨ba, oa + k, none⟩) (by show ba < _; omega)).trans hgA
      have hrB := (HW.out.cell (p := ⟨bb, ob + k, none⟩) (by show bb < _; omega)).trans hgB
      have hcX : ∃ u, wr.cell? ⟨w1.heap.size, k, none⟩ = some u := ⟨_, (HO.out.cellAt k (by omega)).trans (by rw [List.getElem?_map, mixL_get _ _ _ _ _ hkn]; rfl)⟩
      obtain ⟨u, hcX⟩ := hcX
      have hfX := HO.out.frozenAt k
      have hxA := HA.out.1 k
      have hxB := HB.out.1 k
      have HST := Lib.hid (mixL_step la lb lb.length k hkn)
      have HV := Lib.hid (u8_xor _ _ hxA hxB)
      generalize la.getD k 0 = xa at hxA hrA hca0 hgA HST HV
      generalize lb.getD k 0 = xb at hxB hrB hcb0 hgB HST HV
      have hwk : IntKind.i64.wrap (k : Int) = (k : Int) := IntWalk.i64_in _ (by have := HN1.out; omega)
      have hkna : (k : Int) < (la.length : Int) := by omega
      have hknb : (k : Int) < (lb.length : Int) := by omega
      have hbaW : ba < wr.heap.size := by omega
      have hbbW : bb < wr.heap.size := by omega
      clear hca0 hcb0 hgA hgB hlA hlB hsz
      go_wp2_with fail
      have hsA := fun W' (h : Ext wr.drew W') => (h.cell (p := ⟨ba, oa + k, none⟩) hbaW).trans hrA
      have hsB := fun W' (h : Ext wr.drew W') => (h.cell (p := ⟨bb, ob + k, none⟩) hbbW).trans hrB
      refine wp_region_plan [(0, false), (1, false), (2, false), (3, false), (4, false), (5, false), (6, false), (7, false), (8, false), (9, false), (10, false), (11, false), (12, true)] (by kernel_rfl) (by kernel_rfl) (fun _ d _ _ _ h => by cases d <;> exact h) ?_
      iterate 12 (refine plan_take (v := ?_) rfl (by kernel_rfl) ?_ ?_; rotate_left; (focus (intro w' hw'; go_simp; try with_reducible rfl)); simp only [Act.put, List.setIfInBounds_toArray, List.set_cons_zero, List.set_cons_succ])
      clear hsA hsB
      refine plan_last rfl (by kernel_rfl) (by kernel_rfl) (fun K hK => ?_)
      go_simp
      refine hK _ _ ?_
      refine plan_end ?_
      go_wp2
      go_roundw
      case rel =>
        refine ⟨k + 1, by omega, by go_num, ?_, (HW.out.drew.setCell (Nat.le_refl _) _), by simpa using hlt⟩
        have ho := (World.ownsRow.stored HO.out k (.int .u8 (((xa ^^^ xb : Nat)) : Int))).1
        rw [set_bv, HST.out] at ho
        rw [HV.out]
        exact ho
      case measure => simp [intOf]; omega
    · obtain rfl : k = lb.length := by omega
      have hzz : w1.heap.size ≤ wr.heap.size := by omega
      have HTA1 := Lib.hid (bts_below (bts_below HA.out HB1.out) HW.out)
      have HTB1 := Lib.hid (bts_below (bts_below HB.out HB1.out) HW.out)
      obtain ⟨A3, c3, hv3, hB3, hA3⟩ := bts_own HO.out (mixL_lt la lb lb.length lb.length HA.out.1 HB.out.1) (mixL_length _ _ _ _).symm
      rw [mixL_length] at hv3
      injection hv3 with hv3 hq3 hc3
      subst hv3
      subst hc3
      clear hq3
      have HX := Lib.hid hB3
      clear hB3 hA3
      have hmk := HMK.out
      have HU1 := Lib.hid (u32_xor _ _ (sum_lt (la.take lb.length)) (sum_lt lb))
      have HU2 := Lib.hid (u32_xor _ _ (xor32 (sum_lt (la.take lb.length)) (sum_lt lb)) (sum_lt (mixL la lb lb.length lb.length)))
      go_wp2_with fail
      refine wp_region_plan [(0, false), (1, false), (2, false), (3, false), (4, false), (5, false), (6, false), (7, false), (8, false), (9, false), (10, false), (11, false), (12, false), (13, true), (14, false), (15, false), (16, false)] (by kernel_rfl) (by kernel_rfl) (fun _ d _ _ _ h => by cases d <;> exact h) ?_
      iterate 3 (refine plan_take (v := ?_) rfl (by kernel_rfl) ?_ ?_; rotate_left; (focus (intro w' hw'; go_simp; try with_reducible rfl)); simp only [Act.put, List.setIfInBounds_toArray, List.set_cons_zero, List.set_cons_succ])
      refine plan_quiet rfl (by kernel_rfl) (fun w' => by go_simp; all_goals (first | exact ⟨rfl, rfl⟩ | rfl)) (fun w' hw' => sum_at A (la.take lb.length) lb.length ca w' HTA.out (by have := HN1.out; omega) (bts_take (bts_ext HTA1.out hw'))) ?_
      simp only [Act.put, List.setIfInBounds_toArray, List.set_cons_zero, List.set_cons_succ]
      iterate 3 (refine plan_take (v := ?_) rfl (by kernel_rfl) ?_ ?_; rotate_left; (focus (intro w' hw'; go_simp; try with_reducible rfl)); simp only [Act.put, List.setIfInBounds_toArray, List.set_cons_zero, List.set_cons_succ])
      refine plan_quiet rfl (by kernel_rfl) (fun w' => by go_simp; all_goals (first | exact ⟨rfl, rfl⟩ | rfl)) (fun w' hw' => sum_at B lb lb.length cb w' rfl (by have := HN1.out; omega) (bts_ext HTB1.out hw')) ?_
      simp only [Act.put, List.setIfInBounds_toArray, List.set_cons_zero, List.set_cons_succ]
      have hu1 := HU1.out
      iterate 1 (refine plan_take (v := ?_) rfl (by kernel_rfl) ?_ ?_; rotate_left; (focus (intro w' hw'; go_simp; try with_reducible rfl)); simp only [Act.put, List.setIfInBounds_toArray, List.set_cons_zero, List.set_cons_succ])
      clear hu1
      iterate 1 (refine plan_take (v := ?_) rfl (by kernel_rfl) ?_ ?_; rotate_left; (focus (intro w' hw'; go_simp; try with_reducible rfl)); simp only [Act.put, List.setIfInBounds_toArray, List.set_cons_zero, List.set_cons_succ])
      refine plan_quiet rfl (by kernel_rfl) (fun w' => by go_simp; all_goals (first | exact ⟨rfl, rfl⟩ | rfl)) (fun w' hw' => sum_at _ (mixL la lb lb.length lb.length) lb.length _ w' (mixL_length _ _ _ _) (by have := HN1.out; omega) (bts_ext HX.out hw')) ?_
      simp only [Act.put, List.setIfInBounds_toArray, List.set_cons_zero, List.set_cons_succ]
      have hu2 := HU2.out
      iterate 1 (refine plan_take (v := ?_) rfl (by kernel_rfl) ?_ ?_; rotate_left; (focus (intro w' hw'; go_simp; try with_reducible rfl)); simp only [Act.put, List.setIfInBounds_toArray, List.set_cons_zero, List.set_cons_succ])
      clear hu2
      iterate 1 (refine plan_take (v := ?_) rfl (by kernel_rfl) ?_ ?_; rotate_left; (focus (intro w' hw'; go_simp; try with_reducible rfl)); simp only [Act.put, List.setIfInBounds_toArray, List.set_cons_zero, List.set_cons_succ])
      refine plan_turn rfl (by kernel_rfl) (fun K hK => ?_)
      go_simp
      refine hK _ _ ⟨(Ext.refl _).alloc (Nat.le_refl _) _, ?_⟩
      have HO0 := Lib.hid (made_own wr.drew lb.length HN1.out la lb)
      obtain ⟨A4, c4, hv4, hB4, hA4⟩ := bts_own HO0.out (mixL_lt la lb lb.length 0 HA.out.1 HB.out.1) (mixL_length _ _ _ _).symm
      rw [mixL_length] at hv4
      injection hv4 with hv4 hq4 hc4
      subst hv4
      subst hc4
      clear hq4
      have HX4 := Lib.hid hB4
      clear hB4 hA4 hmk
      refine plan_quiet rfl (by kernel_rfl) (fun w' => by go_simp; all_goals (first | exact ⟨rfl, rfl⟩ | rfl)) (fun w' hw' => sum_at _ (mixL la lb lb.length 0) lb.length _ w' (mixL_length _ _ _ _) (by have := HN1.out; omega) (bts_below HX4.out hw')) ?_
      simp only [Act.put, List.setIfInBounds_toArray, List.set_cons_zero, List.set_cons_succ]
      rw [HSUM.out]
      iterate 2 (refine plan_take (v := ?_) rfl (by kernel_rfl) ?_ ?_; rotate_left; (focus (intro w' hw'; go_simp; try with_reducible rfl)); simp only [Act.put, List.setIfInBounds_toArray, List.set_cons_zero, List.set_cons_succ])
      refine plan_end ?_
      go_wp2
      go_ret
      refine ⟨by simp, ?_⟩
      have b1 := HB1.out.trans (HW.out.mono HB1.out.size)
      exact b1.drew.alloc (Nat.le_trans HB1.out.size (by simpa using hzz)) _
theorem CheckLinear (A : Option Addr) (len c : Nat) (z : List Int) (B : Option Addr) (len' c' : Nat) (z' : List Int) (W : World) (hz : IsRow .u8 W A len c z) (_ : 1 * c ≤ 140737488351232) (hz' : IsRow .u8 W B len' c' z') (_ : 1 * c' ≤ 140737488351232) :
    Calls Try.prog 5 #[.slice A len c, .slice B len' c'] W fun e w' => e = .returned (.bool true) ∧ Below W.heap.size W w' := by
  have hca := row_cap hz
  have hcb := row_cap hz'
  obtain ⟨la, rfl, hA, hla⟩ := bts_of_row hz
  obtain ⟨lb, rfl, hB, hlb⟩ := bts_of_row hz'
  clear hz hz'
  by_cases h1 : 1000 < la.length
  · have e1 : decide ((1000 : Int) < (la.length : Int)) = true := by simp; omega
    clear hA hB
    go_enter Try.func5, Try.ntmps5
    go_wp2_with fail
    refine (first_ok _).mono ?_
    rintro e w1 ⟨rfl, hb⟩
    have HB1 := Lib.hid hb
    clear hb
    go_wp2
    go_ret
    exact ⟨rfl, HB1.out⟩
  by_cases h2 : 1000 < lb.length
  · have e1 : decide ((1000 : Int) < (la.length : Int)) = false := by simp; omega
    have e2 : decide ((1000 : Int) < (lb.length : Int)) = true := by simp; omega
    clear hA hB
    go_enter Try.func5, Try.ntmps5
    go_wp2_with fail
    refine (first_ok _).mono ?_
    rintro e w1 ⟨rfl, hb⟩
    have HB1 := Lib.hid hb
    clear hb
    go_wp2
    go_ret
    exact ⟨rfl, HB1.out⟩
  by_cases h3 : lb.length < la.length
  · exact lin_b A B la lb c c' W hA hB (by omega) (by omega) hca hcb h3
  · exact lin_a A B la lb c c' W hA hB (by omega) (by omega) hca hcb h3
end Law
end Go.Proofs.Ytdgblhaihfccfaa
