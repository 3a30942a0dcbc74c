/- MsgTrims: what is trimmed is a beginning without a nought at its end, and noughts are behind it. Condition: the library's tables lie as their own text lays them. -/
import Derived.Test.YtkkgigdgbiklmaaDoorMsgT
import Derived.Test.YtkkgigdgbiklmaaDoorORows
import Derived.Test.YtkkgigdgbiklmaaDoorMsgL
namespace Go.Proofs.YtkkgigdgbiklmaaDoor
open Go.RowKit Go.ChangeShapes

theorem bts_far {w w' : World} {A : Option Addr} {l : List Nat} {F : Nat → Prop} (h : Bts w A l) (k : Keeps F w w') (hd : ∀ a, A = some a → ¬ F a.block) : Bts w' A l := by
  refine ⟨h.1, fun hl => ?_⟩
  obtain ⟨b, o, e, hc⟩ := h.2 hl
  refine ⟨b, o, e, fun i hi => ?_⟩
  have h2 := k.block b (cell_lt (hc i hi)) (hd _ e)
  rw [World.cell?_of_block (a := ⟨b, o + i, none⟩) h2]
  exact hc i hi
theorem own_blk {w : World} {base n : Nat} {v : Value} {l : List Nat} (h : w.ownsRow base 5 1 v n (l.map bv)) (hn : n = l.length) (hp : 0 < n) : ∃ g cap cur, v = .slice (some ⟨g, 0, none⟩) n cap ∧ base ≤ g ∧ Blk w g 5 cur ∧ n ≤ cap ∧ ∀ j, j < n → ∃ z, cur[j]? = some (.int .u8 z) := by
  rcases h.2 with ⟨rfl, h0⟩ | ⟨g, cap, cur, rfl, hb, hg, hc, hm, hs, ht⟩
  · omega
  · refine ⟨g, cap, cur, rfl, hb, hg, hc, fun j hj => ⟨((l.getD j 0 : Nat) : Int), ?_⟩⟩
    have h1 : (cur.toList.take (n * 1))[j]? = some (bv (l.getD j 0)) := by
      rw [ht, List.getElem?_map, List.getElem?_eq_getElem (by omega), List.getD_eq_getElem?_getD, List.getElem?_eq_getElem (by omega)]
      rfl
    rw [List.getElem?_take_of_lt (by omega), Array.getElem?_toList] at h1
    exact h1
/-- Bytes that the law turns in place. -/
def XorR (W w3 wr : World) (g m : Nat) : Prop := Keeps (fun x => x = g) w3 wr ∧ ∃ cur, Blk wr g 5 cur ∧ ∀ j, j < m → ∃ z, cur[j]? = some (.int .u8 z)
set_option maxRecDepth 100000 in
set_option maxHeartbeats 4000000 in
theorem trims_any (b o m c : Nat) (l : List Nat) (W : World) (hB : Bts W (some ⟨b, o, none⟩) l) (hm : l.length = m) (hc : m ≤ c) (h0 : 0 < m) (hF : FW W) :
    Calls Tryd.prog 6 #[.slice (some ⟨b, o, none⟩) m c] W fun e w' => e = .returned (.bool true) ∧ Below W.heap.size W w' := by
  obtain ⟨i0, hi0, hz0, hz1, hz2⟩ := info_parts info5
  obtain ⟨b', o', e, hcl⟩ := hB.2 (by omega)
  injection e with e
  injection e with e1 e2
  subst e1 e2
  have hbl := cell_lt (hcl 0 (by omega))
  have HCL := Lib.hid hcl
  have HB := Lib.hid hB
  have HM := Lib.hid hm
  have HF := Lib.hid hF
  clear hB hm hF hcl
  go_enter Tryd.func6, Tryd.ntmps6
  go_wp2_with fail
  refine (first15 W HF.out).mono ?_
  rintro e w1 ⟨rfl, hb1⟩
  have E1 := Lib.hid hb1
  clear hb1
  by_cases h5 : 5000 < m
  · have i5 : (5000 : Int) < (m : Int) := by omega
    go_wp2_with fail
    go_ret
    exact ⟨rfl, E1.out⟩
  have i5 : ¬ (5000 : Int) < (m : Int) := by omega
  have HRD : Hid (Reads w1 w1.heap.size 1 (some ⟨b, o, none⟩) m (l.map bv)) := Lib.hid (by have h := reads_bts (bts_below HB.out E1.out); rw [HM.out] at h; exact h)
  go_wp2_with (at_builtin; refine wpList_append_any _ rfl (.tmp 13) (.tmp 14) _ rfl w1.heap.size 5 i0 _ 1 1 Tryd.underlying22 hi0 hz0 hz1 hz2 rfl (by decide) _ 0 [] rfl (World.ownsRow_made w1 #[] 0 (Nat.le_refl _) (by unfold maxLen; omega) rfl) w1.heap.size (some ⟨b, o, none⟩) m c (l.map bv) rfl (HRD.out.alloc (Nat.le_refl _) _) (one_bv l) (by unfold maxLen; omega) (by omega) (by simp) ?_; intro v2 w2 hown hgrow hat; rw [Nat.zero_add, List.nil_append] at hown; have HOWN := Lib.hid hown; have E2 : Hid (Below w1.heap.size w1 w2) := Lib.hid (((Below.refl _ w1).alloc (Nat.le_refl _) _).grown hgrow (by simp) (fun k hk => by cases hk; exact Nat.le_refl _)); clear hgrow hat; obtain ⟨g, cap, cur, rfl, hg1, hgb, hmc, hu⟩ := own_blk hown HM.out.symm h0; have HGB := Lib.hid hgb; have HG1 := Lib.hid hg1; have HU := Lib.hid hu; clear hown hgb hg1 hu)
  obtain ⟨A9, c9, e9, hB9, _⟩ := bts_own HOWN.out HB.out.1 HM.out.symm
  have hB2 : Bts w2 (some ⟨g, 0, none⟩) l := by
    injection e9 with e9 _ _
    rw [e9]; exact hB9
  clear e9 hB9
  refine (trim_any (some ⟨g, 0, none⟩) l m cap w2 hB2 HM.out hmc (by omega)).mono ?_
  rintro e w3 ⟨k, A3, c3, rfl, hk, hB3, hA3, hb3⟩
  have HK := Lib.hid hk
  have HB3 := Lib.hid hB3
  have HA3 := Lib.hid hA3
  have E3 := Lib.hid (E2.out.trans (hb3.mono E2.out.size))
  have hgl2 : g < w2.heap.size := HGB.out.lt
  have X0 : Hid (XorR W w3 w3 g m) := Lib.hid ⟨Keeps.refl _ _, cur, HGB.out.below hb3 hgl2, HU.out⟩
  have hkm : k ≤ m := by rw [← HM.out]; exact hk.1
  clear hk hB3 hA3 hb3 hB2 HOWN HRD
  have hgW : W.heap.size ≤ g := Nat.le_trans E1.out.size HG1.out
  go_wp2_with fail
  go_loopw [20] (fun i wr => ∃ j : Nat, j ≤ m ∧ i = .int .i64 j ∧ XorR W w3 wr g m) (fun i _ => m - (intOf i).toNat)
  case atStart => exact ⟨0, by omega, rfl, X0.out⟩
  clear X0
  case round =>
    obtain ⟨j, hj, rfl, hk9, cur9, hb9, hu9⟩ := hrel
    have HK9 := Lib.hid hk9
    have HB9 := Lib.hid hb9
    have HU9 := Lib.hid hu9
    by_cases hjm : j < m
    · obtain ⟨z, hz⟩ := hu9 j hjm
      have c0 := (hb9.cell j).trans hz
      have f0 := Blk.frozen hb9 j
      have gl := hb9.lt
      have hjI : (j : Int) < (m : Int) := by omega
      have hjI0 : (0 : Int) ≤ (j : Int) := by omega
      clear hk9 hb9 hu9 hz
      go_wp2_with fail
      go_roundw
      case rel =>
        refine ⟨j + 1, by omega, by go_num, HK9.out.setCell (p := ⟨g, j, none⟩) (.inl rfl) _, _, Blkf.set_ HB9.out _ _, fun i hi => ?_⟩
        rw [Array.getElem?_setIfInBounds]
        obtain ⟨y, hy⟩ := HU9.out i hi
        split
        · split
          · exact ⟨_, rfl⟩
          · rename_i h1 h2
            subst h1
            rw [Array.getElem?_eq_none (by omega)] at hy
            cases hy
        · exact ⟨y, hy⟩
      case measure => simp [intOf]; omega
    · obtain rfl : j = m := by omega
      clear hk9 hb9 hu9
      have HB4 := Lib.hid (bts_far HB3.out HK9.out (fun a ea e => by have := HA3.out a ea; rw [e] at this; omega))
      have E4 : Hid (Below W.heap.size W wr) := Lib.hid ((E1.out.trans (E3.out.mono E1.out.size)).trans (HK9.out.below (B := W.heap.size) (fun i e => by omega) (Nat.le_trans E1.out.size E3.out.size)))
      have HBB := Lib.hid (bts_below HB.out E4.out)
      clear HB3 HK9 HB9 HU9 HGB HU
      have hlk : (l.take k).length = k := by rw [List.length_take, HM.out]; omega
      have cv1 := fun (W' : World) (h : Ext wr.drew W') => conv_bts (c := c3) (n := k) (bts_below HB4.out ((Below.refl _ wr).drew.trans h)) hlk
      have cv2 := fun (W' : World) (h : Ext wr.drew W') => conv_bts (c := c) (n := k) (bts_below (bts_take (k := k) HBB.out) ((Below.refl _ wr).drew.trans h)) hlk
      generalize strB (l.take k) = T at *
      have ik : ¬ (j : Int) < (k : Int) := by omega
      have ikN : decide (j < k) = false := decide_eq_false (by omega)
      have ikc : (k : Int) ≤ (c : Int) := by omega
      have ikc2 : k ≤ c := by omega
      go_wp2_with fail
      rcases Nat.eq_zero_or_pos k with hk0 | hk0
      · have i00 : ¬ (0 : Int) < (k : Int) := by omega
        have i01 : ¬ 0 < k := by omega
        have i02 : decide (0 < k) = false := decide_eq_false i01
        have HK0 := Lib.hid hk0
        clear hk0
        refine wp_region_plan [(0, false), (1, false), (2, false), (3, false), (4, false), (5, false), (6, false), (7, false), (8, false), (9, false), (10, false), (11, false), (12, false), (13, false), (14, false), (15, false), (16, false), (17, false), (18, false), (19, false), (20, false), (21, false), (22, false), (23, false), (24, false), (25, false), (26, false), (27, false), (28, false)] (by kernel_rfl) (by kernel_rfl) (fun _ d _ _ _ h => by cases d <;> exact h) ?_
        iterate 20 (refine plan_take (v := ?_) rfl (by kernel_rfl) ?_ ?_; rotate_left; (focus (intro w' hw'; try go_simp; try with_reducible rfl)); simp only [Act.put, List.setIfInBounds_toArray, List.set_cons_zero, List.set_cons_succ])
        iterate 7 (refine plan_skip rfl (by kernel_rfl) ?_; simp only [Act.put, List.setIfInBounds_toArray, List.set_cons_zero, List.set_cons_succ])
        iterate 2 (refine plan_take (v := ?_) rfl (by kernel_rfl) ?_ ?_; rotate_left; (focus (intro w' hw'; try go_simp; try with_reducible rfl)); simp only [Act.put, List.setIfInBounds_toArray, List.set_cons_zero, List.set_cons_succ])
        refine plan_end ?_
        clear cv1 cv2
        go_wp2_with fail
        all_goals (
          go_loopw [7, 64] (fun _ i wr2 => ∃ n : Nat, n ≤ j - k ∧ i = .int .i64 n ∧ wr.drew = wr2) (fun _ i _ => (j - k) - (intOf i).toNat)
          case atStart => exact ⟨0, by omega, rfl, rfl⟩
          case round =>
            obtain ⟨n, hn, rfl, rfl⟩ := hrel
            by_cases hnn : n < j - k
            · first
              | (exfalso; omega)
              | (have hc0 : wr.drew.cell? ⟨b, o + k + n, none⟩ = some (.int .u8 0) := by
                  rw [show o + k + n = o + (k + n) by omega, World.cell?_drew, E4.out.cell (p := ⟨b, o + (k + n), none⟩) hbl, HCL.out (k + n) (by rw [HM.out]; omega), HK.out.2.1 (k + n) (by omega) (by rw [HM.out]; omega)]
                  rfl
                 have inn : (n : Int) < ((j - k : Nat) : Int) := by omega
                 have inn0 : (0 : Int) ≤ (n : Int) := by omega
                 go_wp2_with fail
                 go_roundw
                 case rel => exact ⟨n + 1, by omega, by go_num, trivial⟩
                 case measure => simp [intOf]; omega)
            · have inn : ¬ (n : Int) < ((j - k : Nat) : Int) := by omega
              go_wp2_with fail
              go_ret
              exact ⟨rfl, E4.out.drew⟩)
      · obtain ⟨b3, o3, rfl, hc3⟩ := HB4.out.2 (by rw [hlk]; exact hk0)
        have c0 := hc3 (k - 1) (by rw [hlk]; omega)
        obtain ⟨q, hq⟩ : ∃ q, k = q + 1 := ⟨k - 1, by omega⟩
        have hnz : (l.take k).getD (k - 1) 0 ≠ 0 := by
          rw [List.getD_eq_getElem?_getD, List.getElem?_take_of_lt (by omega), ← List.getD_eq_getElem?_getD]
          exact HK.out.2.2 hk0
        rw [show k - 1 = q by omega] at c0 hnz
        generalize (l.take k).getD q 0 = z at *
        have hlt3 := cell_lt c0
        have s0 := fun (W' : World) (h : Ext wr.drew W') => (h.cell (p := ⟨b3, o3 + q, none⟩) hlt3).trans c0
        have i00 : (0 : Int) < (k : Int) := by omega
        have i02 : decide (0 < k) = true := decide_eq_true hk0
        have i4 : (q : Int) < (k : Int) := by omega
        have i5 : wrap64 ((k : Int) - 1) = (q : Int) := by unfold wrap64; omega
        have i6 : (k : Int) - 1 = (q : Int) := by omega
        have iw : IntKind.i64.wrap (q : Int) = (q : Int) := IntWalk.i64_in _ (by omega)
        have iw2 : IntKind.i64.wrap ((k : Int) - 1) = (q : Int) := by rw [i6, iw]
        have iz : ((z : Int) == 0) = false := by simp; omega
        clear hq hnz hc3 c0
        refine wp_region_plan [(0, false), (1, false), (2, false), (3, false), (4, false), (5, false), (6, false), (7, false), (8, false), (9, false), (10, false), (11, false), (12, false), (13, false), (14, false), (15, false), (16, false), (17, false), (18, false), (19, false), (20, false), (21, false), (22, false), (23, false), (24, false), (25, false), (26, false), (27, false), (28, false)] (by kernel_rfl) (by kernel_rfl) (fun _ d _ _ _ h => by cases d <;> exact h) ?_
        iterate 29 (refine plan_take (v := ?_) rfl (by kernel_rfl) ?_ ?_; rotate_left; (focus (intro w' hw'; try go_simp; try with_reducible rfl)); simp only [Act.put, List.setIfInBounds_toArray, List.set_cons_zero, List.set_cons_succ])
        refine plan_end ?_
        clear cv1 cv2 s0
        go_wp2_with fail
        all_goals (
          go_loopw [7, 64] (fun _ i wr2 => ∃ n : Nat, n ≤ j - k ∧ i = .int .i64 n ∧ wr.drew = wr2) (fun _ i _ => (j - k) - (intOf i).toNat)
          case atStart => exact ⟨0, by omega, rfl, rfl⟩
          case round =>
            obtain ⟨n, hn, rfl, rfl⟩ := hrel
            by_cases hnn : n < j - k
            · first
              | (exfalso; omega)
              | (have hc0 : wr.drew.cell? ⟨b, o + k + n, none⟩ = some (.int .u8 0) := by
                  rw [show o + k + n = o + (k + n) by omega, World.cell?_drew, E4.out.cell (p := ⟨b, o + (k + n), none⟩) hbl, HCL.out (k + n) (by rw [HM.out]; omega), HK.out.2.1 (k + n) (by omega) (by rw [HM.out]; omega)]
                  rfl
                 have inn : (n : Int) < ((j - k : Nat) : Int) := by omega
                 have inn0 : (0 : Int) ≤ (n : Int) := by omega
                 go_wp2_with fail
                 go_roundw
                 case rel => exact ⟨n + 1, by omega, by go_num, trivial⟩
                 case measure => simp [intOf]; omega)
            · have inn : ¬ (n : Int) < ((j - k : Nat) : Int) := by omega
              go_wp2_with fail
              go_ret
              exact ⟨rfl, E4.out.drew⟩)

set_option maxRecDepth 100000 in
set_option maxHeartbeats 4000000 in
theorem trims_nil (A : Option Addr) (c : Nat) (W : World) (hA : A = none → c = 0) (hF : FW W) :
    Calls Tryd.prog 6 #[.slice A 0 c] W fun e w' => e = .returned (.bool true) ∧ Below W.heap.size W w' := by
  obtain ⟨i0, hi0, hz0, hz1, hz2⟩ := info_parts info5
  have hB : Bts W A [] := ⟨fun i => by simp, fun h => by simp at h⟩
  have HB := Lib.hid hB
  have HF := Lib.hid hF
  clear hB hF
  go_enter Tryd.func6, Tryd.ntmps6
  go_wp2_with fail
  refine (first15 W HF.out).mono ?_
  rintro e w1 ⟨rfl, hb1⟩
  have E1 := Lib.hid hb1
  clear hb1
  have HRD : Hid (Reads w1 w1.heap.size 1 A 0 (([] : List Nat).map bv)) := Lib.hid (reads_bts (bts_below HB.out E1.out))
  go_wp2_with (at_builtin; refine wpList_append_any _ rfl (.tmp 13) (.tmp 14) _ rfl w1.heap.size 5 i0 _ 1 1 Tryd.underlying22 hi0 hz0 hz1 hz2 rfl (by decide) _ 0 [] rfl (World.ownsRow_made w1 #[] 0 (Nat.le_refl _) (by unfold maxLen; omega) rfl) w1.heap.size A 0 c (([] : List Nat).map bv) rfl (HRD.out.alloc (Nat.le_refl _) _) (one_bv []) (by unfold maxLen; omega) (by omega) (by simp) ?_; intro v2 w2 hown hgrow hat; rw [Nat.zero_add, List.nil_append] at hown; have HOWN := Lib.hid hown; have E2 : Hid (Below w1.heap.size w1 w2) := Lib.hid (((Below.refl _ w1).alloc (Nat.le_refl _) _).grown hgrow (by simp) (fun k hk => by cases hk; exact Nat.le_refl _)); clear hgrow hat; obtain ⟨A9, c9, rfl, hB9, _⟩ := bts_own HOWN.out (fun i => by simp) rfl; clear hown)
  refine (trim_any A9 [] 0 c9 w2 hB9 rfl (by omega) (by omega)).mono ?_
  rintro e w3 ⟨k, A3, c3, rfl, hk, hB3, -, hb3⟩
  obtain rfl : k = 0 := by have := hk.1; simp at this; exact this
  have HB3 := Lib.hid hB3
  have E4 := Lib.hid (E1.out.trans ((E2.out.trans (hb3.mono E2.out.size)).mono E1.out.size))
  clear hk hB3 hb3 hB9 HOWN HRD
  go_wp2_with fail
  go_loopw [20] (fun i wr => i = .int .i64 0 ∧ w3 = wr) (fun i _ => 0)
  case atStart => exact ⟨rfl, rfl⟩
  case round =>
    obtain ⟨rfl, rfl⟩ := hrel
    have cv1 := fun (W' : World) (h : Ext w3.drew W') => conv_bts (c := c3) (n := 0) (bts_below HB3.out ((Below.refl _ w3).drew.trans h)) rfl
    have cv2 := fun (W' : World) (h : Ext w3.drew W') => conv_bts (A := A) (c := c) (n := 0) (l := []) (w := W') ⟨fun i => by simp, fun h => by simp at h⟩ rfl
    simp only [List.take_nil] at cv1
    generalize strB [] = T at *
    go_wp2_with fail
    rcases A with _ | ⟨b, o, sp⟩
    · obtain rfl := hA rfl
      refine wp_region_plan [(0, false), (1, false), (2, false), (3, false), (4, false), (5, false), (6, false), (7, false), (8, false), (9, false), (10, false), (11, false), (12, false), (13, false), (14, false), (15, false), (16, false), (17, false), (18, false), (19, false), (20, false), (21, false), (22, false), (23, false), (24, false), (25, false), (26, false), (27, false), (28, false)] (by kernel_rfl) (by kernel_rfl) (fun _ d _ _ _ h => by cases d <;> exact h) ?_
      iterate 20 (refine plan_take (v := ?_) rfl (by kernel_rfl) ?_ ?_; rotate_left; (focus (intro w' hw'; try go_simp; try with_reducible rfl)); simp only [Act.put, List.setIfInBounds_toArray, List.set_cons_zero, List.set_cons_succ])
      iterate 7 (refine plan_skip rfl (by kernel_rfl) ?_; simp only [Act.put, List.setIfInBounds_toArray, List.set_cons_zero, List.set_cons_succ])
      iterate 2 (refine plan_take (v := ?_) rfl (by kernel_rfl) ?_ ?_; rotate_left; (focus (intro w' hw'; try go_simp; try with_reducible rfl)); simp only [Act.put, List.setIfInBounds_toArray, List.set_cons_zero, List.set_cons_succ])
      refine plan_end ?_
      clear cv1 cv2
      go_wp2_with fail
      go_loopw [64] (fun i wr2 => i = .int .i64 0 ∧ w3.drew = wr2) (fun i _ => 0)
      case atStart => exact ⟨rfl, rfl⟩
      case round =>
        obtain ⟨rfl, rfl⟩ := hrel
        go_wp2_with fail
        go_ret
        exact ⟨rfl, E4.out.drew⟩
    · skip
      refine wp_region_plan [(0, false), (1, false), (2, false), (3, false), (4, false), (5, false), (6, false), (7, false), (8, false), (9, false), (10, false), (11, false), (12, false), (13, false), (14, false), (15, false), (16, false), (17, false), (18, false), (19, false), (20, false), (21, false), (22, false), (23, false), (24, false), (25, false), (26, false), (27, false), (28, false)] (by kernel_rfl) (by kernel_rfl) (fun _ d _ _ _ h => by cases d <;> exact h) ?_
      iterate 20 (refine plan_take (v := ?_) rfl (by kernel_rfl) ?_ ?_; rotate_left; (focus (intro w' hw'; try go_simp; try with_reducible rfl)); simp only [Act.put, List.setIfInBounds_toArray, List.set_cons_zero, List.set_cons_succ])
      iterate 7 (refine plan_skip rfl (by kernel_rfl) ?_; simp only [Act.put, List.setIfInBounds_toArray, List.set_cons_zero, List.set_cons_succ])
      iterate 2 (refine plan_take (v := ?_) rfl (by kernel_rfl) ?_ ?_; rotate_left; (focus (intro w' hw'; try go_simp; try with_reducible rfl)); simp only [Act.put, List.setIfInBounds_toArray, List.set_cons_zero, List.set_cons_succ])
      refine plan_end ?_
      clear cv1 cv2
      go_wp2_with fail
      all_goals (
        go_loopw [64] (fun i wr2 => i = .int .i64 0 ∧ w3.drew = wr2) (fun i _ => 0)
        case atStart => exact ⟨rfl, rfl⟩
        case round =>
          obtain ⟨rfl, rfl⟩ := hrel
          go_wp2_with fail
          go_ret
          exact ⟨rfl, E4.out.drew⟩)
theorem row_cap {k : IntKind} {w : World} {a : Option Addr} {len cap : Nat} {zs : List Int} (h : IsRow k w a len cap zs) : len ≤ cap := by
  rcases h with ⟨_, rfl, rfl, _⟩ | ⟨x, _, h1, _⟩
  · exact Nat.le_refl _
  · omega
theorem Law.MsgTrims (A : Option Addr) (len c : Nat) (z : List Int) (W : World) (hz : IsRow .u8 W A len c z) (_ : 1 * c ≤ 140737488351232) (hF : FW W) :
    Calls Tryd.prog 6 #[.slice A len c] W fun e w' => e = .returned (.bool true) ∧ Below W.heap.size W w' := by
  have hc := row_cap hz
  obtain ⟨l, hl, hB, hm⟩ := bts_of_row hz
  rcases Nat.eq_zero_or_pos len with h0 | h0
  · subst h0
    refine trims_nil A c W (fun h => ?_) hF
    subst h
    rcases hz with ⟨_, _, h, _⟩ | ⟨x, h, _⟩
    · exact h
    · cases h
  · obtain ⟨b, o, rfl, _⟩ := hB.2 (by omega)
    exact trims_any b o len c l W hB hl hc h0 hF
end Go.Proofs.YtkkgigdgbiklmaaDoor
