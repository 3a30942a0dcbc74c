/- IsaBytes. -/
import Derived.Test.YtcmaneeoblmmmaaIsaL
namespace Go.Proofs.Ytcmaneeoblmmmaa
open Go.RowKit

theorem codeB_get (V : Nat → Nat → Int) : ∀ (n k j : Nat), k < n → j < 4 → (codeB V n)[4 * k + j]? = some (Wd.byteOf (putV V k).toNat j)
  | 0, k, j, h, _ => by omega
  | n + 1, k, j, h, hj => by
    rw [codeB]
    rcases Nat.lt_or_ge k n with h1 | h1
    · rw [List.getElem?_append_left (by rw [codeB_length]; omega)]
      exact codeB_get V n k j h1 hj
    · obtain rfl : k = n := by omega
      rw [List.getElem?_append_right (by rw [codeB_length]; omega), codeB_length, show 4 * k + j - 4 * k = j by omega]
      have : (Wd.bytesOf (putV V k).toNat 4).getD j 0 = Wd.byteOf (putV V k).toNat j := Wd.bytesOf_get (putV V k).toNat 4 j rfl hj
      have hl : (Wd.bytesOf (putV V k).toNat 4).length = 4 := Wd.bytesOf_length _ 4 rfl
      rw [List.getD_eq_getElem?_getD, List.getElem?_eq_getElem (by omega)] at this
      rw [List.getElem?_eq_getElem (by omega)]
      exact congrArg some this
theorem four_bytes (x : Nat) (h : x < 4294967296) : x / 256 ^ 0 % 256 + 256 * (x / 256 ^ 1 % 256) + 65536 * (x / 256 ^ 2 % 256) + 16777216 * (x / 256 ^ 3 % 256) = x := by
  simp only [Nat.pow_zero, Nat.div_one, Nat.pow_one, show 256 ^ 2 = 65536 from rfl, show 256 ^ 3 = 16777216 from rfl]
  omega
theorem word4 (y0 y1 y2 y3 : Nat) (l0 : y0 < 256) (l1 : y1 < 256) (l2 : y2 < 256) (l3 : y3 < 256) :
    bits .or .u32 (bits .or .u32 (bits .or .u32 (IntKind.u32.wrap (y0 : Int)) (IntKind.u32.wrap (IntKind.u32.wrap (y1 : Int) * 256))) (IntKind.u32.wrap (IntKind.u32.wrap (y2 : Int) * 65536))) (IntKind.u32.wrap (IntKind.u32.wrap (y3 : Int) * 16777216)) = (y0 : Int) + y1 * 256 + y2 * 65536 + y3 * 16777216 := by
  rw [wraps_u32 (y0 : Int) (by omega) (by omega), wraps_u32 (y1 : Int) (by omega) (by omega), wraps_u32 (y2 : Int) (by omega) (by omega), wraps_u32 (y3 : Int) (by omega) (by omega),
    wraps_u32 ((y1 : Int) * 256) (by omega) (by omega), wraps_u32 ((y2 : Int) * 65536) (by omega) (by omega), wraps_u32 ((y3 : Int) * 16777216) (by omega) (by omega),
    u32_or (y0 : Int) (y1 * 256) 8 (by decide) (by omega) (by omega) (by omega) (by omega) (by omega), u32_or ((y0 : Int) + y1 * 256) (y2 * 65536) 16 (by decide) (by omega) (by omega) (by omega) (by omega) (by omega),
    u32_or ((y0 : Int) + y1 * 256 + y2 * 65536) (y3 * 16777216) 24 (by decide) (by omega) (by omega) (by omega) (by omega) (by omega)]
theorem ibytes_nil (A : Option Addr) (c : Nat) (W : World) :
    Calls Try.prog 18 #[.slice A 0 c] W fun e w' => W = w' ∧ e = .returned (.tuple #[.slice none 0 0, .int .i64 0]) := by
  go_enter Try.func18, Try.ntmps18
  go_wp2_with fail
  go_loop [4, 11] (fun v i => v = .slice none 0 0 ∧ i = .int .i64 0) (fun _ _ => 0)
  case atStart => exact ⟨rfl, rfl⟩
  case round =>
    obtain ⟨rfl, rfl⟩ := hrel
    go_wp2
    go_ret2
    exact ⟨rfl, rfl⟩
set_option maxHeartbeats 4000000 in
theorem isabytes_nil (A : Option Addr) (c : Nat) (W : World) :
    Calls Try.prog 6 #[.slice A 0 c] W fun e w' => e = .returned (.bool true) ∧ Below W.heap.size W w' := by
  go_enter Try.func6, Try.ntmps6
  go_wp2_with fail
  refine (first_ok _).mono ?_
  rintro e w1 ⟨rfl, hb1⟩
  have HB1 := Lib.hid hb1
  clear hb1
  go_wp2_with fail
  refine (ibytes_nil A c _).mono ?_
  rintro e w2 ⟨rfl, rfl⟩
  go_wp2_with fail
  go_loop [24] (fun i => i = .int .i64 0) (fun _ => 0)
  case atStart => rfl
  case round =>
    subst hrel
    go_wp2_with fail
    go_loop [51] (fun i => i = .int .i64 0) (fun _ => 0)
    case atStart => rfl
    case round =>
      subst hrel
      go_wp2
      go_ret
      exact ⟨rfl, HB1.out⟩
def Loop1 (w2 : World) (V : Nat → Nat → Int) (n : Nat) (i : Value) (wr : World) : Prop := ∃ k : Nat, k ≤ n ∧ i = .int .i64 k ∧ (∀ j, j < k → rightV V j = true) ∧ Below w2.heap.size w2 wr
def Loop2 (w2 : World) (n : Nat) (i : Value) (wr : World) : Prop := ∃ k : Nat, k ≤ n ∧ i = .int .i64 k ∧ Below w2.heap.size w2 wr
set_option maxRecDepth 100000 in
set_option maxHeartbeats 8000000 in
theorem isabytes_some (b o n c : Nat) (V : Nat → Nat → Int) (W : World) (hC : Code W b o n V) (hn : n ≤ 200) :
    Calls Try.prog 6 #[.slice (some ⟨b, o, none⟩) n c] W fun e w' => e = .returned (.bool true) ∧ Below W.heap.size W w' := by
  have HC := Lib.hid hC
  have hbl := hC.1
  clear hC
  have e200 : decide (200 < (n : Int)) = false := by simp; omega
  go_enter Try.func6, Try.ntmps6
  go_wp2_with fail
  refine (first_ok _).mono ?_
  rintro e w1 ⟨rfl, hb1⟩
  have HB1 := Lib.hid hb1
  clear hb1
  go_wp2_with fail
  refine (ibytes_any b o n c V _ (HC.out.below HB1.out hbl) hn).mono ?_
  rintro e w2 ⟨hb2, ⟨hall, v, rfl, hown⟩ | ⟨⟨m, hmn, hm⟩, rfl⟩⟩
  · obtain ⟨Av, cv, rfl⟩ := row_slice hown
    have HB2 := Lib.hid (HB1.out.trans (hb2.mono HB1.out.size))
    have HO := Lib.hid hown
    have HA := Lib.hid hall
    clear hb2 hown hall HB1
    clear e200
    go_wp2_with fail
    go_loopw [24] (fun i wr => Loop1 w2 V n i wr) (fun i _ => n - (intOf i).toNat)
    case atStart => exact ⟨0, by omega, rfl, fun j hj => by omega, Below.refl _ _⟩
    case round =>
      obtain ⟨k, hk, rfl, _, hbw⟩ := hrel
      have HW := Lib.hid hbw
      clear hbw
      by_cases hkl : k < n
      · have hcode := (HC.out.below HB2.out hbl).below HW.out (Nat.lt_of_lt_of_le hbl HB2.out.size)
        have hbr : b < wr.heap.size := hcode.1
        obtain ⟨c0, c1, c2, c3, c4⟩ := hcode.cells hkl
        clear hcode
        go_wp2_with fail
        refine (rright_any _ _ _ _ _ _).mono ?_
        rintro e w4 ⟨rfl, hb4⟩
        rw [show rightB (V k 0) (V k 1) (V k 2) (V k 3) (V k 4) = true from HA.out k hkl]
        have HB4 := Lib.hid hb4
        clear hb4
        go_wp2_with fail
        go_roundw
        case rel => exact ⟨k + 1, hkl, by go_num, fun j hj => HA.out j (by omega), below_step HW.out (Keeps.of_below (F := fun _ => False) ((Below.refl _ wr).alloc (Nat.le_refl _) _ |>.trans (HB4.out.mono (by simp)))) (fun _ h => h.elim) HW.out.size⟩
        case measure => simp [intOf]; omega
      · obtain rfl : k = n := by omega
        have e4 : (((4 * k : Nat) : Int) == 4 * (k : Int)) = true := by rw [beq_iff_eq]; omega
        go_wp2_with fail
        clear e4
        go_loopw [51] (fun i wr => Loop2 w2 k i wr) (fun i _ => k - (intOf i).toNat)
        case atStart => exact ⟨0, by omega, rfl, HW.out⟩
        case round =>
          obtain ⟨q, hq, rfl, hbw2⟩ := hrel
          have HW2 := Lib.hid hbw2
          clear hbw2
          by_cases hql : q < k
          · have hcode := (HC.out.below HB2.out hbl).below HW2.out (Nat.lt_of_lt_of_le hbl HB2.out.size)
            have hbr := hcode.1
            obtain ⟨c0, c1, c2, c3, c4⟩ := hcode.cells hql
            have ho := Wd.own_below HO.out HW2.out
            obtain ⟨g, cap, hve, _, hglt⟩ := ho.form (by omega)
            injection hve with hve1 hve2 hve3
            subst hve1
            subst hve3
            have hx := put_get _ _ _ _ _ (HA.out q hql)
            obtain ⟨z, hz⟩ : ∃ z : Nat, (z : Int) = putV V q := ⟨(putV V q).toNat, by have := hx.2.2.1; unfold putV; omega⟩
            have hz2 : z < 4294967296 := by have := hx.2.2.2; unfold putV at hz; omega
            have hb : ∀ j, j < 4 → wr.cell? ⟨g, 4 * q + j, none⟩ = some (.int .u8 ((Wd.byteOf z j : Nat) : Int)) := fun j hj => by
              rw [ho.cellAt (4 * q + j) (by omega), List.getElem?_map, codeB_get V k q j hql hj, ← hz]; rfl
            obtain ⟨y0, hy0⟩ : ∃ y, y = Wd.byteOf z 0 := ⟨_, rfl⟩
            obtain ⟨y1, hy1⟩ : ∃ y, y = Wd.byteOf z 1 := ⟨_, rfl⟩
            obtain ⟨y2, hy2⟩ : ∃ y, y = Wd.byteOf z 2 := ⟨_, rfl⟩
            obtain ⟨y3, hy3⟩ : ∃ y, y = Wd.byteOf z 3 := ⟨_, rfl⟩
            obtain ⟨m0, hm0⟩ : ∃ m, m = 4 * q := ⟨_, rfl⟩
            obtain ⟨m1, hm1⟩ : ∃ m, m = 4 * q + 1 := ⟨_, rfl⟩
            obtain ⟨m2, hm2⟩ : ∃ m, m = 4 * q + 2 := ⟨_, rfl⟩
            obtain ⟨m3, hm3⟩ : ∃ m, m = 4 * q + 3 := ⟨_, rfl⟩
            have g0 : (m0 : Int) < 4 * (k : Int) := by omega
            have g1 : (m1 : Int) < 4 * (k : Int) := by omega
            have g2 : (m2 : Int) < 4 * (k : Int) := by omega
            have g3 : (m3 : Int) < 4 * (k : Int) := by omega
            have i0' : IntKind.i64.wrap (4 * (q : Int)) = (m0 : Int) := by rw [IntWalk.i64_in _ (by omega)]; omega
            have i1' : IntKind.i64.wrap ((m0 : Int) + 1) = (m1 : Int) := by rw [IntWalk.i64_in _ (by omega)]; omega
            have i2' : IntKind.i64.wrap ((m0 : Int) + 2) = (m2 : Int) := by rw [IntWalk.i64_in _ (by omega)]; omega
            have i3' : IntKind.i64.wrap ((m0 : Int) + 3) = (m3 : Int) := by rw [IntWalk.i64_in _ (by omega)]; omega
            have d0 := hb 0 (by omega)
            have d1 := hb 1 (by omega)
            have d2 := hb 2 (by omega)
            have d3 := hb 3 (by omega)
            rw [← hy0, Nat.add_zero, ← hm0] at d0
            rw [← hy1, ← hm1] at d1
            rw [← hy2, ← hm2] at d2
            rw [← hy3, ← hm3] at d3
            have HZ := Lib.hid hz
            have HX := Lib.hid hx
            have HO2 := Lib.hid ho
            have HC0 := Lib.hid c0
            have HC1 := Lib.hid c1
            have HC2 := Lib.hid c2
            have HC3 := Lib.hid c3
            have HC4 := Lib.hid c4
            have l0 : y0 < 256 := by rw [hy0]; exact Wd.byteOf_lt _ _
            have l1 : y1 < 256 := by rw [hy1]; exact Wd.byteOf_lt _ _
            have l2 : y2 < 256 := by rw [hy2]; exact Wd.byteOf_lt _ _
            have l3 : y3 < 256 := by rw [hy3]; exact Wd.byteOf_lt _ _
            have HY : Hid ((y0 : Int) + y1 * 256 + y2 * 65536 + y3 * 16777216 = putV V q) := Lib.hid (by
              have := four_bytes z hz2
              rw [hy0, hy1, hy2, hy3, ← hz]
              unfold Wd.byteOf
              omega)
            clear hb hz hx ho hy0 hy1 hy2 hy3 hcode hm0 hm1 hm2 hm3
            have b1 : Hid (Below wr.heap.size wr (wr.alloc (.cells #[.int .i64 (V q 0), .int .i64 (V q 1), .int .i64 (V q 2), .int .i64 (V q 3), .int .i64 (V q 4)] 24)).drew) := Lib.hid (((Below.refl _ wr).alloc (Nat.le_refl _) _).drew)
            go_wp2_with fail
            have hg2 : g < (wr.alloc (.cells #[.int .i64 (V q 0), .int .i64 (V q 1), .int .i64 (V q 2), .int .i64 (V q 3), .int .i64 (V q 4)] 24)).drew.heap.size := Nat.lt_of_lt_of_le hglt b1.out.size
            have s0 := fun W' (h : Ext (wr.alloc (.cells #[.int .i64 (V q 0), .int .i64 (V q 1), .int .i64 (V q 2), .int .i64 (V q 3), .int .i64 (V q 4)] 24)).drew W') => ((h.cell (p := ⟨g, m0, none⟩) hg2).trans (b1.out.cell hglt)).trans d0
            have s1 := fun W' (h : Ext (wr.alloc (.cells #[.int .i64 (V q 0), .int .i64 (V q 1), .int .i64 (V q 2), .int .i64 (V q 3), .int .i64 (V q 4)] 24)).drew W') => ((h.cell (p := ⟨g, m1, none⟩) hg2).trans (b1.out.cell hglt)).trans d1
            have s2 := fun W' (h : Ext (wr.alloc (.cells #[.int .i64 (V q 0), .int .i64 (V q 1), .int .i64 (V q 2), .int .i64 (V q 3), .int .i64 (V q 4)] 24)).drew W') => ((h.cell (p := ⟨g, m2, none⟩) hg2).trans (b1.out.cell hglt)).trans d2
            have s3 := fun W' (h : Ext (wr.alloc (.cells #[.int .i64 (V q 0), .int .i64 (V q 1), .int .i64 (V q 2), .int .i64 (V q 3), .int .i64 (V q 4)] 24)).drew W') => ((h.cell (p := ⟨g, m3, none⟩) hg2).trans (b1.out.cell hglt)).trans d3
            clear d0 d1 d2 d3
            refine wp_region_plan [(0, false), (1, false), (2, false), (3, false), (4, false), (5, false), (6, false), (7, false), (8, false), (9, false), (10, false), (11, false), (12, false), (13, false), (14, false), (15, false), (16, false), (17, false), (18, false), (19, false), (20, false), (21, false), (22, false), (23, false), (24, false), (25, false), (26, false), (27, false), (28, false), (29, false), (30, false), (31, false), (32, false), (33, false)] (by kernel_rfl) (by kernel_rfl) (fun _ d _ _ _ h => by cases d <;> exact h) ?_
            iterate 34 (refine plan_take (v := ?_) rfl (by kernel_rfl) ?_ ?_; rotate_left; (focus (intro w' hw'; go_simp; try with_reducible rfl)); simp only [Act.put, List.setIfInBounds_toArray, List.set_cons_zero, List.set_cons_succ])
            clear s0 s1 s2 s3 i0' i1' i2' i3' g0 g1 g2 g3
            refine plan_end ?_
            rw [word4 y0 y1 y2 y3 l0 l1 l2 l3, HY.out]
            have hin : Below wr.heap.size wr (wr.alloc (.cells #[.int .i64 (V q 0), .int .i64 (V q 1), .int .i64 (V q 2), .int .i64 (V q 3), .int .i64 (V q 4)] 24)).drew := b1.out
            have hpi := Blkf.new_at (n := wr.heap.size) wr 24 (0, 0) #[.int .i64 (V q 0), .int .i64 (V q 1), .int .i64 (V q 2), .int .i64 (V q 3), .int .i64 (V q 4)] rfl
            have HPI := Lib.hid hpi
            clear hin hpi
            go_wp2_with fail
            refine (get_yes (putV V q) _ HX.out.2.2.1 HX.out.2.2.2 HX.out.1).mono ?_
            rintro e w4 ⟨rfl, hb4⟩
            rw [show getA (putV V q) = _ from HX.out.2.1]
            obtain ⟨c0, c1, c2, c3, c4⟩ := inst_cells (HPI.out.drew.below hb4 HPI.out.drew.lt)
            have HB4 := Lib.hid (b1.out.trans (hb4.mono b1.out.size))
            have lw : wr.heap.size < w4.heap.size := Nat.lt_of_lt_of_le HPI.out.drew.lt hb4.size
            clear hb4
            go_wp2_with fail
            have b4 := HB4.out
            refine ⟨⟨q + 1, hql, by go_num, ?_⟩, by simp [intOf]; omega⟩
            exact below_step HW2.out (Keeps.of_below (F := fun _ => False) (b4.alloc b4.size _)) (fun _ h => h.elim) HW2.out.size
          · obtain rfl : q = k := by omega
            go_wp2
            go_ret
            exact ⟨rfl, HB2.out.trans (HW2.out.mono HB2.out.size)⟩
  · have HB2 := Lib.hid (HB1.out.trans (hb2.mono HB1.out.size))
    have HM := Lib.hid hm
    clear hb2 hm HB1 e200
    go_wp2_with fail
    go_loopw [24] (fun i wr => Loop2 w2 m i wr) (fun i _ => n - (intOf i).toNat)
    case atStart => exact ⟨0, by omega, rfl, Below.refl _ _⟩
    case round =>
      obtain ⟨k, hk, rfl, hbw⟩ := hrel
      have HW := Lib.hid hbw
      clear hbw
      have hkl : k < n := by omega
      have hcode := (HC.out.below HB2.out hbl).below HW.out (Nat.lt_of_lt_of_le hbl HB2.out.size)
      have hbr : b < wr.heap.size := hcode.1
      obtain ⟨c0, c1, c2, c3, c4⟩ := hcode.cells hkl
      clear hcode
      have HS := Lib.hid HB2.out.size
      go_wp2_with fail
      refine (rright_any _ _ _ _ _ _).mono ?_
      rintro e w4 ⟨rfl, hb4⟩
      have HB4 := Lib.hid (below_step HW.out (Keeps.of_below (F := fun _ => False) ((Below.refl _ wr).alloc (Nat.le_refl _) _ |>.trans (hb4.mono (by simp)))) (fun _ h => h.elim) HW.out.size)
      clear hb4
      by_cases hkm : k = m
      · subst hkm
        rw [show rightB (V k 0) (V k 1) (V k 2) (V k 3) (V k 4) = false from HM.out]
        go_wp2
        go_ret
        exact ⟨rfl, HB2.out.trans (HB4.out.mono HS.out)⟩
      · cases hr : rightB (V k 0) (V k 1) (V k 2) (V k 3) (V k 4)
        · go_wp2
          go_ret
          exact ⟨rfl, HB2.out.trans (HB4.out.mono HS.out)⟩
        · go_wp2_with fail
          go_roundw
          case rel => exact ⟨k + 1, by omega, by go_num, HB4.out⟩
          case measure => simp [intOf]; omega
theorem isabytes_many (A : Option Addr) (n c : Nat) (W : World) (hn : ¬ n ≤ 200) :
    Calls Try.prog 6 #[.slice A n c] W fun e w' => e = .returned (.bool true) ∧ Below W.heap.size W w' := by
  have e200 : decide (200 < (n : Int)) = true := by simp; omega
  have e201 : (200 : Int) < (n : Int) := by omega
  go_enter Try.func6, Try.ntmps6
  go_wp2_with fail
  refine (first_ok _).mono ?_
  rintro e w1 ⟨rfl, hb1⟩
  have HB1 := Lib.hid hb1
  clear hb1
  go_wp2
  go_ret
  exact ⟨rfl, HB1.out⟩
theorem Law.IsaBytes (a : Option Addr) (len cap : Nat) (W : World) (w : IsRows [.int .i64, .int .i64, .int .i64, .int .i64, .int .i64] W a len cap) (_ : 40 * cap ≤ 140737488351232) :
    Calls Try.prog 6 #[.slice a len cap] W fun e w' => e = .returned (.bool true) ∧ Below W.heap.size W w' := by
  rcases Nat.eq_zero_or_pos len with rfl | hp
  · exact isabytes_nil _ _ _
  · by_cases h : len ≤ 200
    · obtain ⟨b, o, V, rfl, hC⟩ := code_of w hp
      exact isabytes_some b o len cap V W hC h
    · exact isabytes_many _ _ _ _ h
end Go.Proofs.Ytcmaneeoblmmmaa
