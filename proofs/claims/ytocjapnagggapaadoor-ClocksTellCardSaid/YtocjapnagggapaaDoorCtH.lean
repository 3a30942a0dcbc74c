/- ClocksTell: the law. -/
import Derived.Test.YtocjapnagggapaaDoorCtG
import Derived.Test.YtocjapnagggapaaDoorClkR
import Derived.Test.YtocjapnagggapaaDoorORows
namespace Go.Proofs.YtocjapnagggapaaDoor
open Go.RowKit Go.ChangeShapes

theorem fact_of {w : World} {b o cap : Nat} {i : Nat} (hi : i < cap)
    (hc : ∀ i, i < cap → ∀ j k, [LK.int .i64, .int .i64, .int .i64, .bool, .int .i64, .int .i64, .int .i64, .int .i64, .int .i64, .int .u64, .int .i64, .int .i64, .int .u64, .int .i64, .int .u64, .int .u64][j]? = some k → ∃ v, w.cell? ⟨b, o + (i * 16 + j), none⟩ = some v ∧ k.ok w v) :
    ∃ (cs : Array Value) (x : Fc), w.rangeAt b (o + i * 16) cs.toList ∧ FcAt cs x := by
  obtain ⟨_, k0, y0, rfl, w0⟩ := hc i hi 0 _ rfl
  obtain ⟨_, k1, y1, rfl, w1⟩ := hc i hi 1 _ rfl
  obtain ⟨_, k2, y2, rfl, w2⟩ := hc i hi 2 _ rfl
  obtain ⟨_, k3, y3, rfl⟩ := hc i hi 3 _ rfl
  obtain ⟨_, k4, y4, rfl, w4⟩ := hc i hi 4 _ rfl
  obtain ⟨_, k5, y5, rfl, w5⟩ := hc i hi 5 _ rfl
  obtain ⟨_, k6, y6, rfl, w6⟩ := hc i hi 6 _ rfl
  obtain ⟨_, k7, y7, rfl, w7⟩ := hc i hi 7 _ rfl
  obtain ⟨_, k8, y8, rfl, w8⟩ := hc i hi 8 _ rfl
  obtain ⟨_, k9, y9, rfl, w9⟩ := hc i hi 9 _ rfl
  obtain ⟨_, k10, y10, rfl, w10⟩ := hc i hi 10 _ rfl
  obtain ⟨_, k11, y11, rfl, w11⟩ := hc i hi 11 _ rfl
  obtain ⟨_, k12, y12, rfl, w12⟩ := hc i hi 12 _ rfl
  obtain ⟨_, k13, y13, rfl, w13⟩ := hc i hi 13 _ rfl
  obtain ⟨_, k14, y14, rfl, w14⟩ := hc i hi 14 _ rfl
  obtain ⟨_, k15, y15, rfl, w15⟩ := hc i hi 15 _ rfl
  obtain ⟨a12, rfl⟩ := Int.eq_ofNat_of_zero_le (u64_of_wf w12).1
  refine ⟨#[.int .i64 y0, .int .i64 y1, .int .i64 y2, .bool y3, .int .i64 y4, .int .i64 y5, .int .i64 y6, .int .i64 y7, .int .i64 y8, .int .u64 y9, .int .i64 y10, .int .i64 y11, .int .u64 (a12 : Int), .int .i64 y13, .int .u64 y14, .int .u64 y15], ⟨y1, y11, a12, y13⟩, fun j v hj => ?_, ⟨rfl, rfl, rfl, rfl, rfl, by simp [Value.oneCell'], by have := (u64_of_wf w12).2; show a12 < 18446744073709551616; omega⟩⟩
  rw [Nat.add_assoc]
  match j, hj with
  | 0, hj => exact k0.trans hj
  | 1, hj => exact k1.trans hj
  | 2, hj => exact k2.trans hj
  | 3, hj => exact k3.trans hj
  | 4, hj => exact k4.trans hj
  | 5, hj => exact k5.trans hj
  | 6, hj => exact k6.trans hj
  | 7, hj => exact k7.trans hj
  | 8, hj => exact k8.trans hj
  | 9, hj => exact k9.trans hj
  | 10, hj => exact k10.trans hj
  | 11, hj => exact k11.trans hj
  | 12, hj => exact k12.trans hj
  | 13, hj => exact k13.trans hj
  | 14, hj => exact k14.trans hj
  | 15, hj => exact k15.trans hj
  | j + 16, hj => exact absurd hj (by simp)
theorem fs_of_rows {w : World} {a : Option Addr} {len cap : Nat} (h : IsRows [.int .i64, .int .i64, .int .i64, .bool, .int .i64, .int .i64, .int .i64, .int .i64, .int .i64, .int .u64, .int .i64, .int .i64, .int .u64, .int .i64, .int .u64, .int .u64] w a len cap) : ∃ C f, FsAt w a len C f := by
  rcases h with ⟨_, rfl, _⟩ | ⟨x, rfl, hl, hm, hc⟩
  · exact ⟨fun _ => #[], fun _ => ⟨0, 0, 0, 0⟩, fun hp => by omega⟩
  · rcases Nat.eq_zero_or_pos len with rfl | hp
    · exact ⟨fun _ => #[], fun _ => ⟨0, 0, 0, 0⟩, fun hp => by omega⟩
    · obtain ⟨v, h0, _⟩ := hc 0 (by omega) 0 _ rfl
      obtain ⟨b, o, spot⟩ := x
      have hspot : spot = none := by simpa [Addr.add] using World.cell?_spot h0
      subst hspot
      have ea : ∀ k, (⟨b, o, none⟩ : Addr).add k = ⟨b, o + k, none⟩ := fun k => by unfold Addr.add; split <;> simp_all
      rw [ea] at h0
      have hex : ∀ i, ∃ (cs : Array Value) (x : Fc), i < cap → w.rangeAt b (o + i * 16) cs.toList ∧ FcAt cs x := fun i => by
        by_cases hi : i < cap
        · obtain ⟨cs, x, h1⟩ := fact_of (w := w) (b := b) (o := o) hi (fun i hi j k hj => by
            obtain ⟨v, hv, hk⟩ := hc i hi j k hj
            rw [ea] at hv
            exact ⟨v, hv, hk⟩)
          exact ⟨cs, x, fun _ => h1⟩
        · exact ⟨#[], ⟨0, 0, 0, 0⟩, fun h => absurd h hi⟩
      refine ⟨fun i => Classical.choose (hex i), fun i => Classical.choose (Classical.choose_spec (hex i)), fun _ => ⟨b, o, rfl, World.block_lt_of_cell? _ _ h0, fun i hi => Classical.choose_spec (Classical.choose_spec (hex i)) (by omega)⟩⟩
theorem rows_cap {ks : List LK} {w : World} {a : Option Addr} {len cap : Nat} (h : IsRows ks w a len cap) : len ≤ 9223372036854775807 := by
  rcases h with ⟨_, h, _⟩ | ⟨x, _, h, h2, _⟩
  · omega
  · exact Nat.le_trans h (Nat.le_trans h2 (by decide))
set_option maxRecDepth 100000 in
set_option maxHeartbeats 8000000 in
theorem tell_walk (A : Option Addr) (len cap : Nat) (C : Nat → Array Value) (f : Nat → Fc) (W : World) (hT : Tab W) (hlen : len ≤ 9223372036854775807) (h : FsAt W A len C f) :
    Calls Tryd.prog 3 #[.slice A len cap] W fun e w' => e = .returned (.bool true) ∧ Below W.heap.size W w' := by
  have HFS := Lib.hid h
  clear h
  go_enter Tryd.func3, Tryd.ntmps3
  go_wp2_with fail
  refine (first_any W hT).mono ?_
  rintro e w1 ⟨rfl, hb1⟩
  have HE1 := Lib.hid hb1
  have HFS1 := Lib.hid (HFS.out.below hb1)
  clear hb1 hT HFS
  by_cases h40 : 40 < len
  · have h40' : (40 : Int) < (len : Int) := by omega
    go_wp2_with fail
    go_ret
    exact ⟨rfl, HE1.out⟩
  · have h40' : ¬ (40 : Int) < (len : Int) := by omega
    have hl : len ≤ 40 := by omega
    clear hlen h40
    go_wp2_with fail
    refine (clocks_any A len cap C f w1 hl HFS1.out).mono ?_
    rintro e w2 ⟨v, rfl, hrow, hb2⟩
    obtain ⟨cA, cp, rfl⟩ := row_form hrow
    have HC2 := Lib.hid (csAt_of hrow)
    have HFS2 := Lib.hid (HFS1.out.below hb2)
    have HE2 := Lib.hid (Ext.trans (show Ext W w1 from HE1.out) hb2)
    clear hrow hb2 HFS1 HE1
    go_wp2_with fail
    refine (rclocks_any A len cap C f w2 hl HFS2.out).mono ?_
    rintro e w3 ⟨A2, c2, rfl, hcs, hb3⟩
    have HC3 := Lib.hid (HC2.out.ext hb3)
    have HD3 := Lib.hid hcs
    have HFS3 := Lib.hid (HFS2.out.below hb3)
    have HE3 := Lib.hid (Ext.trans HE2.out hb3)
    clear hcs hb3 HC2 HFS2 HE2
    go_wp2_with fail
    go_loopw [22] (fun i wr => ∃ k : Nat, k ≤ len ∧ i = .int .i64 (k : Int) ∧ Ext w3 wr) (fun i _ => len - (intOf i).toNat)
    case atStart => exact ⟨0, by omega, rfl, Below.refl _ _⟩
    case round =>
      obtain ⟨i, hi, rfl, hE⟩ := hrel
      have HE := Lib.hid hE
      by_cases hil : i < len
      · obtain ⟨cb, rfl, hcl, hcr⟩ := HC3.out (by omega)
        obtain ⟨db, rfl, hdl, hdr⟩ := HD3.out (by omega)
        have hii : (i : Int) < (len : Int) := by omega
        have s1 : ∀ W', Ext wr.drew W' → W'.rangeAt cb (i * 16) (fnC 16 (tellC f i)).toList := fun W' h j v hj => (h.cell (p := ⟨cb, i * 16 + j, none⟩) (Nat.lt_of_lt_of_le hcl hE.size)).trans ((hE.cell (p := ⟨cb, i * 16 + j, none⟩) hcl).trans (hcr i hil j v hj))
        have s2 : ∀ W', Ext wr.drew W' → W'.rangeAt db (i * 16) (fnC 16 (tellC f i)).toList := fun W' h j v hj => (h.cell (p := ⟨db, i * 16 + j, none⟩) (Nat.lt_of_lt_of_le hdl hE.size)).trans ((hE.cell (p := ⟨db, i * 16 + j, none⟩) hdl).trans (hdr i hil j v hj))
        have hw := tell_wf f (show i < 40 by omega)
        have heq : allEq (ciN (tellC f i)) (ciN (tellC f i)) = true := allEq_iff.2 (fun _ _ => rfl)
        have hne := fun w' => (neq_nat w' _ _ hw hw).trans (by rw [heq]; rfl : _ = Result.ok (.bool false) w')
        clear hE hcl hcr hdl hdr hw heq
        go_wp2_with fail
        refine wp_region_plan [(0, false), (1, false), (2, false), (3, false), (4, false), (5, false), (6, false), (7, false), (8, false)] (by kernel_rfl) (by kernel_rfl) (fun _ d _ _ _ h => by cases d <;> exact h) ?_
        iterate 3 (refine plan_take (v := ?_) rfl (by kernel_rfl) ?_ ?_; rotate_left; (focus (intro w' hw'; try go_simp; try with_reducible rfl)); simp only [Act.put, List.setIfInBounds_toArray, List.set_cons_zero, List.set_cons_succ])
        refine plan_take (v := .agg (fnC 16 (tellC f i))) rfl (by kernel_rfl) (fun w' hw' => run_load_op 26 (.tmp 27) rfl cb (i * 16) _ rfl (s1 w' hw') (arr_row _)) ?_
        simp only [Act.put, List.setIfInBounds_toArray, List.set_cons_zero, List.set_cons_succ]
        iterate 3 (refine plan_take (v := ?_) rfl (by kernel_rfl) ?_ ?_; rotate_left; (focus (intro w' hw'; try go_simp; try with_reducible rfl)); simp only [Act.put, List.setIfInBounds_toArray, List.set_cons_zero, List.set_cons_succ])
        refine plan_take (v := .agg (fnC 16 (tellC f i))) rfl (by kernel_rfl) (fun w' hw' => run_load_op 26 (.tmp 31) rfl db (i * 16) _ rfl (s2 w' hw') (arr_row _)) ?_
        simp only [Act.put, List.setIfInBounds_toArray, List.set_cons_zero, List.set_cons_succ]
        refine plan_take (v := .bool false) rfl (by kernel_rfl) (fun w' hw' => execOp_neq _ arr_guard _ _ _ _ rfl rfl rfl (hne w')) ?_
        simp only [Act.put, List.setIfInBounds_toArray, List.set_cons_zero, List.set_cons_succ]
        clear s1 s2 hne
        refine plan_end ?_
        go_wp2_with fail
        go_roundw
        case rel => exact ⟨i + 1, hil, by go_num, show Ext w3 wr.drew from HE.out.drew⟩
        case measure => simp [intOf]; omega
      · obtain rfl : i = len := by omega
        have HFS4 := Lib.hid (HFS3.out.below HE.out)
        have HE4 := Lib.hid (Ext.trans HE3.out HE.out)
        clear HFS3 HE3 hE HE
        go_wp2_with fail
        refine (beside_any A i cap C f wr hl HFS4.out).mono ?_
        rintro e w5 ⟨rfl, hb5⟩
        have HFS5 := Lib.hid (HFS4.out.below hb5)
        have HE5 := Lib.hid (Ext.trans HE4.out hb5)
        clear hb5 HFS4 HE4
        go_wp2_with fail
        refine (rbeside_any A i cap C f w5 hl HFS5.out).mono ?_
        rintro e w6 ⟨rfl, hb6⟩
        have HFS6 := Lib.hid (HFS5.out.below hb6)
        have HE6 := Lib.hid (Ext.trans HE5.out hb6)
        clear hb6 HFS5 HE5
        generalize besTot f i = bt at *
        go_wp2_with fail
        refine (chain_any A i cap C f w6 hl HFS6.out).mono ?_
        rintro e w7 ⟨rfl, hb7⟩
        have HFS7 := Lib.hid (HFS6.out.below hb7)
        have HE7 := Lib.hid (Ext.trans HE6.out hb7)
        clear hb7 HFS6 HE6
        go_wp2_with fail
        refine (rchain_any A i cap C f w7 hl HFS7.out).mono ?_
        rintro e w8 ⟨rfl, hb8⟩
        have HE8 := Lib.hid (Ext.trans HE7.out hb8)
        clear hb8 HFS7 HE7
        generalize chB f i = ct at *
        go_wp2_with fail
        go_ret
        exact ⟨rfl, HE8.out⟩
theorem Law.ClocksTell (A : Option Addr) (len cap : Nat) (W : World) (hz : IsRows [.int .i64, .int .i64, .int .i64, .bool, .int .i64, .int .i64, .int .i64, .int .i64, .int .i64, .int .u64, .int .i64, .int .i64, .int .u64, .int .i64, .int .u64, .int .u64] W A len cap) (_ : 128 * cap ≤ 140737488351232) (hT : Tab W) :
    Calls Tryd.prog 3 #[.slice A len cap] W fun e w' => e = .returned (.bool true) ∧ Below W.heap.size W w' := by
  obtain ⟨C, f, h⟩ := fs_of_rows hz
  exact tell_walk A len cap C f W hT (rows_cap hz) h
end Go.Proofs.YtocjapnagggapaaDoor
