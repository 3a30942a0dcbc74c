/- PhysWords. -/
import Derived.Test.YtgdebfpepbomiaaPhyI
import Derived.Lib.SlBytesConst
namespace Go.Proofs.Ytgdebfpepbomiaa
open Go.RowKit

theorem getD_el {l : List Nat} {i : Nat} (h : i < l.length) : l.getD i 0 = l[i] := by
  rw [List.getD_eq_getElem?_getD, List.getElem?_eq_getElem h]
  rfl
theorem putL_take {l : List Nat} {p v s : Nat} (h : l.length = 4096) : (putL l p v s).take p = l.take p := by
  apply List.ext_getElem
  · rw [List.length_take, List.length_take, putL_length, h]
  · intro i h1 h2
    rw [List.length_take, putL_length] at h1
    rw [List.getElem_take, List.getElem_take]
    have := putL_get l p v s i (by omega)
    rw [if_neg (by omega), getD_el (by rw [putL_length]; omega), getD_el (by rw [h]; omega)] at this
    exact this
theorem putL_drop {l : List Nat} {p v s : Nat} (h : l.length = 4096) : (putL l p v s).drop (p + s) = l.drop (p + s) := by
  apply List.ext_getElem
  · rw [List.length_drop, List.length_drop, putL_length, h]
  · intro i h1 h2
    rw [List.length_drop, putL_length] at h1
    rw [List.getElem_drop, List.getElem_drop]
    have := putL_get l p v s (p + s + i) (by omega)
    rw [if_neg (by omega), getD_el (by rw [putL_length]; omega), getD_el (by rw [h]; omega)] at this
    exact this
theorem take1 {l : List Nat} {i : Nat} (h : i < l.length) : (l.drop i).take 1 = [l.getD i 0] := by
  rw [getD_el h, List.drop_eq_getElem_cons h]
  rfl
/-- A byte of a word that was stored. -/
theorem ldV_byte (S : Nat → List Nat) (a v q k : Nat) (hk : k < q) (hq : a + q ≤ 4096) : ldV (stS S a q v) (a + k) 1 = byteOf v k := by
  have e1 : (a + k) / 4096 = 0 := by omega
  have e2 : a / 4096 = 0 := by omega
  have e3 : (a + k) % 4096 = a + k := by omega
  have e4 : a % 4096 = a := by omega
  unfold ldV stS getV
  rw [e1, e2, e3, e4]
  show leNat (((putL (S 0) a v q).drop (a + k)).take 1) = byteOf v k
  rw [take1 (by rw [putL_length]; omega), putL_get _ _ _ _ _ (by omega), if_pos (by omega), show a + k - a = k by omega]
  show byteOf v k + 256 * 0 = byteOf v k
  omega
/-- The page of frame 0 behind a store in it, and that of frame 1. -/
theorem stS_pages (S : Nat → List Nat) (a v q : Nat) (h : a < 4096) : stS S a q v 0 = putL (S 0) a v q ∧ stS S a q v 1 = S 1 := by
  have e2 : a / 4096 = 0 := by omega
  have e4 : a % 4096 = a := by omega
  unfold stS
  rw [e2, e4]
  exact ⟨rfl, rfl⟩
def l0 : List Nat := [115, 111, 109, 101, 32, 98, 121, 116, 101, 115, 32, 116, 104, 97, 116, 32, 119, 101, 114, 101, 32, 116, 104, 101, 114, 101]
theorem l0_lt (i : Nat) : l0.getD i 0 < 256 := by
  rcases Nat.lt_or_ge i 26 with h | h
  · revert i; decide
  · rw [List.getD_eq_getElem?_getD, List.getElem?_eq_none h]; decide
theorem chk_1 {n a : Nat} (h : a < 4096 * n) : chkE n a 1 = 0 := by
  unfold chkE
  rw [if_neg (by decide), if_neg (by show ¬ (true && a % 1 == 0) = false; simp [Nat.mod_one]), if_neg (by omega)]
theorem al_fit {a : Nat} {q : Nat} (h : alignedB a q = true) (ha : a < 4096) : a + q ≤ 4096 := by
  unfold alignedB at h
  simp only [Bool.and_eq_true, beq_iff_eq] at h
  have h2 := h.2
  rw [Int.toNat_natCast] at h2
  rcases size_cases h.1 with e | e | e | e
  · omega
  · obtain rfl : q = 2 := by omega
    omega
  · obtain rfl : q = 4 := by omega
    omega
  · obtain rfl : q = 8 := by omega
    omega
theorem byte_shr (v k : Nat) (hv : v < 18446744073709551616) : bits .and .u64 ((v : Int) / 2 ^ (8 * k)) 255 = ((byteOf v k : Nat) : Int) := by
  have e : (v : Int) / 2 ^ (8 * k) = ((v / 2 ^ (8 * k) : Nat) : Int) := by simp
  rw [e, show (255 : Int) = ((2 ^ 8 - 1 : Nat) : Int) from rfl, bits_and_u64_nat _ _ (Nat.lt_of_le_of_lt (Nat.div_le_self _ _) hv) (by decide), Nat.and_two_pow_sub_one_eq_mod]
  unfold byteOf
  rw [Nat.pow_mul]
theorem zpg_bts (w : World) : Bts (w.alloc (.cells zpg 5)) (some ⟨w.heap.size, 0, none⟩) zeroL := by
  refine ⟨fun i => by rw [zeroL_get]; decide, fun _ => ⟨w.heap.size, 0, rfl, fun i hi => ?_⟩⟩
  rw [Nat.zero_add, (Blkf.new_at w 5 (0, 0) zpg rfl).cell i]
  unfold zpg
  rw [List.getElem?_toArray, cell_of hi]
  rfl
theorem own_pg {w : World} {base : Nat} {v : Value} {l : List Nat} (h : w.ownsRow base 5 1 v l.length (l.map bv)) (hl : l.length = 4096) (hlt : ∀ i, l.getD i 0 < 256) :
    ∃ q c, v = .slice (some ⟨q, 0, none⟩) 4096 c ∧ base ≤ q ∧ q < w.heap.size ∧ 4096 ≤ c ∧ Bts w (some ⟨q, 0, none⟩) l := by
  obtain ⟨q, c, rfl, h1, h2⟩ := h.form (by omega)
  obtain ⟨A, c', e, hB, _⟩ := bts_own h hlt rfl
  injection e with e1 _ _
  subst e1
  refine ⟨q, c, by rw [hl], h1, h2, ?_, hB⟩
  rcases h.2 with ⟨h0, _⟩ | ⟨g, cap, cur, e, _, _, h4, _⟩
  · cases h0
  · injection e with _ _ e
    omega
theorem bts_keeps {w w' : World} {F : Nat → Prop} {q : Nat} {l : List Nat} (h : Bts w (some ⟨q, 0, none⟩) l) (hk : Keeps F w w') (hq : q < w.heap.size) (hF : ¬ F q) : Bts w' (some ⟨q, 0, none⟩) l := by
  refine ⟨h.1, fun h0 => ?_⟩
  obtain ⟨b, o, e, hc⟩ := h.2 h0
  injection e with e
  injection e with e1 e2
  subst e1 e2
  exact ⟨q, 0, rfl, fun i hi => (World.cell?_of_block (a := ⟨q, 0 + i, none⟩) (hk.block q hq hF)).trans (hc i hi)⟩
theorem Mem.len {w : World} {g n : Nat} {F : Nat → Prop} {S : Nat → List Nat} (h : Mem w g F n S) (k : Nat) : (S k).length = 4096 := by
  obtain ⟨mb, loc, K, h, _⟩ := h
  exact h.pgLen k
theorem Mem.ltb {w : World} {g n : Nat} {F : Nat → Prop} {S : Nat → List Nat} (h : Mem w g F n S) (k i : Nat) : (S k).getD i 0 < 256 := by
  obtain ⟨mb, loc, K, h, _⟩ := h
  exact h.pgLt k i
theorem l0_arr : (#[.int .u8 115, .int .u8 111, .int .u8 109, .int .u8 101, .int .u8 32, .int .u8 98, .int .u8 121, .int .u8 116, .int .u8 101, .int .u8 115, .int .u8 32, .int .u8 116, .int .u8 104, .int .u8 97, .int .u8 116, .int .u8 32, .int .u8 119, .int .u8 101, .int .u8 114, .int .u8 101, .int .u8 32, .int .u8 116, .int .u8 104, .int .u8 101, .int .u8 114, .int .u8 101] : Array Value) = (l0.map bv).toArray := rfl
theorem l0_bts (w : World) (fr : Nat × Nat) : Bts (w.alloc (.cells (l0.map bv).toArray 5 fr)) (some ⟨w.heap.size, 0, none⟩) l0 := by
  refine ⟨l0_lt, fun _ => ⟨w.heap.size, 0, rfl, fun i hi => ?_⟩⟩
  rw [Nat.zero_add, (Blkf.new_at w 5 fr (l0.map bv).toArray rfl).cell i, List.getElem?_toArray, cell_of hi]
  rfl
set_option maxHeartbeats 2000000 in
set_option maxRecDepth 20000 in
theorem words_walk (at_ v : Nat) (s : Int) (W : World) (hv : v < 18446744073709551616) :
    Calls Try.prog 3 #[.int .u64 (at_ : Int), .int .i64 s, .int .u64 (v : Int)] W fun e w' => e = .returned (.bool true) ∧ Below W.heap.size W w' := by
  have HV := Lib.hid hv
  have HSL : Hid (updS emptyS 0 (headL l0) 1 = zeroL) := Lib.hid rfl
  have hmod : (at_ : Int) % 4096 = ((at_ % 4096 : Nat) : Int) := by simp
  have HMOD := Lib.hid hmod
  have HAL : Hid (at_ % 4096 < 4096) := Lib.hid (Nat.mod_lt _ (by decide))
  clear hv hmod
  go_enter Try.func3, Try.ntmps3
  go_wp2_with fail
  refine (first_ok _).mono ?_
  rintro e w0 ⟨rfl, hb⟩
  have HB0 := Lib.hid hb
  clear hb
  go_wp2_with fail
  refine (new_yes 2 _ (by decide) (by decide)).mono ?_
  rintro e w1 ⟨g, rfl, hm, hb⟩
  have HM1 := Lib.hid (hm.tight.mono (G := fun b => W.heap.size ≤ b ∧ b < w1.heap.size) (fun b h => ⟨Nat.le_trans HB0.out.size h.1, h.2⟩))
  have HB1 := Lib.hid (HB0.out.trans (hb.mono HB0.out.size))
  clear hm hb
  have kc := fun (C : Array Value) (n c : Nat) => Lib.run_convert_bytes_const (P := Try.prog) w1 29 5 C n c Try.underlying29 Try.underlying5
  go_wp2_with fail
  clear kc
  rw [l0_arr]
  have hal : Below W.heap.size W (w1.alloc (.cells (l0.map bv).toArray 5 (26, 27))) := HB1.out.alloc HB1.out.size _
  refine (SetPage_any g 2 0 (some ⟨w1.heap.size, 0, none⟩) l0 26 _ _ _ (HM1.out.below ((Below.refl _ _).alloc (Nat.le_refl _) _)) (by decide) (l0_bts w1 (26, 27)) (by decide)).mono ?_
  rintro e w2 ⟨rfl, hm⟩
  generalize updS emptyS 0 (headL l0) = S at *
  obtain ⟨hm, hb, _⟩ := hm.tight (B := W.heap.size) (fun b h => h.1) hal.size
  have HM2 := Lib.hid hm
  have HB2 := Lib.hid (hal.trans hb)
  clear hm hb hal
  go_wp2_with fail
  refine (Page_yes g 2 0 _ _ _ HM2.out (by decide)).mono ?_
  rintro e w3 ⟨v1, rfl, ho, hb⟩
  obtain ⟨q1, d1, rfl, hq1, hq1', hd1, hB⟩ := own_pg ho (HM2.out.len 0) (HM2.out.ltb 0)
  have HT1 := Lib.hid hB
  have HQ1 := Lib.hid hq1
  have HQ1' := Lib.hid hq1'
  have HM3 := Lib.hid (HM2.out.below hb)
  have HB3 := Lib.hid (HB2.out.trans (hb.mono HB2.out.size))
  clear ho hb hB hq1 hq1'
  go_wp2_with fail
  rw [HMOD.out]
  generalize at_ % 4096 = a at *
  have ha : (a : Int) < 4096 := by have := HAL.out; omega
  refine (Store_any g 2 a s v _ _ _ HM3.out (by omega) HV.out).mono ?_
  rintro e w4 ⟨rfl, hm⟩
  obtain ⟨hm, hb, hk⟩ := hm.tight (B := W.heap.size) (fun b h => h.1) HB3.out.size
  have HT4 := Lib.hid (bts_keeps HT1.out hk HQ1'.out (fun h => by have := h.2; have := HQ1.out; omega))
  have HQ4 := Lib.hid (Nat.lt_of_lt_of_le HQ1'.out hk.size)
  have HM4 := Lib.hid hm
  have HB4 := Lib.hid (HB3.out.trans hb)
  clear hm hb hk
  by_cases hE : chkE 2 a s = 0
  · have HOK := Lib.hid (chk_ok hE)
    have HSR : Hid (stR 2 S a s v = stS S a s v) := Lib.hid (if_pos hE)
    rw [hE]
    rw [HSR.out] at HM4
    clear hE HSR
    obtain ⟨q, rfl⟩ := Int.eq_ofNat_of_zero_le (a := s) (by have := HOK.out.1; unfold alignedB at this; simp only [Bool.and_eq_true] at this; have := size_cases this.1; omega)
    have hfit := al_fit HOK.out.1 HAL.out
    have hq8 : (q : Int) ≤ 8 := by have := HOK.out.1; unfold alignedB at this; simp only [Bool.and_eq_true] at this; have := size_cases this.1; omega
    have haq : (a : Int) + (q : Int) ≤ 4096 := by omega
    have HFIT := Lib.hid hfit
    have HBY := Lib.hid (fun k hk => ldV_byte S a v q k hk HFIT.out)
    obtain ⟨hp0, hp1⟩ := stS_pages S a v q HAL.out
    have HP0 := Lib.hid hp0
    have HP1 := Lib.hid (hp1.trans HSL.out)
    clear hm
    generalize stS S a q v = S2 at *
    clear hp0 hp1 hfit
    go_wp2_with fail
    go_loop [55] (fun i => ∃ k : Nat, k ≤ q ∧ i = .int .u64 k) (fun i => q - (intOf i).toNat)
    case atStart => exact ⟨0, by omega, rfl⟩
    case round =>
      obtain ⟨k, hk, rfl⟩ := hrel
      by_cases hkq : k < q
      · have HKQ := Lib.hid hkq
        have HBK := Lib.hid (HBY.out k hkq)
        have HLR : Hid (ldR 2 S2 (a + k) 1 = byteOf v k) := Lib.hid (by unfold ldR; rw [if_pos (chk_1 (by omega)), HBK.out])
        have HC1 : Hid (chkE 2 (a + k) 1 = 0) := Lib.hid (chk_1 (by omega))
        go_wp2_with fail
        rw [show (a : Int) + (k : Int) = ((a + k : Nat) : Int) from rfl]
        refine (Load_any g 2 (a + k) 1 _ _ _ HM4.out (by omega)).mono ?_
        rintro e w ⟨rfl, rfl⟩
        rw [HLR.out, HC1.out]
        have hne : (((byteOf v k : Nat) : Int) != bits .and .u64 ((v : Int) / 2 ^ (8 * k)) 255) = false := by rw [byte_shr v k HV.out]; simp
        go_wp2_with fail
        exact ⟨⟨k + 1, HKQ.out, by simp⟩, by simp [intOf]; omega⟩
      · obtain rfl : k = q := by omega
        clear hk hkq
        go_wp2_with fail
        refine (Page_yes g 2 0 _ _ _ HM4.out (by decide)).mono ?_
        rintro e w5 ⟨v2, rfl, ho, hb⟩
        obtain ⟨q2, d2, rfl, hq2, hq2', hd2, hB⟩ := own_pg ho (HM4.out.len 0) (HM4.out.ltb 0)
        rw [HP0.out] at hB
        have HT5 := Lib.hid (bts_below HT4.out hb)
        have HU5 := Lib.hid hB
        have HM5 := Lib.hid (HM4.out.below hb)
        have HB5 := Lib.hid (HB4.out.trans (hb.mono HB4.out.size))
        clear ho hb hB hq2 hq2'
        go_wp2_with fail
        refine (Page_yes g 2 1 _ _ _ HM5.out (by decide)).mono ?_
        rintro e w6 ⟨v3, rfl, ho, hb⟩
        obtain ⟨q3, d3, rfl, hq3, hq3', hd3, hB⟩ := own_pg ho (HM5.out.len 1) (HM5.out.ltb 1)
        rw [HP1.out] at hB
        have HT6 := Lib.hid (bts_below HT5.out hb)
        have HU6 := Lib.hid (bts_below HU5.out hb)
        have HX6 := Lib.hid hB
        have HB6 := Lib.hid (HB5.out.trans (hb.mono HB5.out.size))
        have HLS := Lib.hid (HM5.out.len 0)
        clear ho hb hB hq3 hq3'
        go_wp2_with fail
        rw [HP0.out] at HLS
        have HL0 := Lib.hid (HM2.out.len 0)
        generalize (some (⟨q1, 0, none⟩ : Addr)) = A1 at *
        generalize (some (⟨q2, 0, none⟩ : Addr)) = A2 at *
        generalize (some (⟨q3, 0, none⟩ : Addr)) = A3 at *
        have HE1 := Lib.hid (putL_take (l := S 0) (p := a) (v := v) (s := k) HL0.out)
        have HE2 := Lib.hid (putL_drop (l := S 0) (p := a) (v := v) (s := k) HL0.out)
        generalize putL (S 0) a v k = P2 at *
        generalize S 0 = P1 at *
        obtain ⟨t1, ht1⟩ : ∃ t, strB (P1.take a) = t := ⟨_, rfl⟩
        obtain ⟨t2, ht2⟩ : ∃ t, strB (P1.drop (a + k)) = t := ⟨_, rfl⟩
        obtain ⟨t3, ht3⟩ : ∃ t, strB zeroL = t := ⟨_, rfl⟩
        have hcvA : ∀ W', Ext w6.drew W' → (convert 29 9 (.slice A2 a d2)).run Try.prog W' = .ok (.string t1) W' := fun W' hW => by
          rw [← ht1, ← HE1.out]
          exact conv_bts (bts_below (w := w6.drew) (bts_take HU6.out) hW) (by rw [List.length_take, HLS.out]; have := HAL.out; omega)
        have hcvB : ∀ W', Ext w6.drew W' → (convert 29 9 (.slice A1 a d1)).run Try.prog W' = .ok (.string t1) W' := fun W' hW => by
          rw [← ht1]
          exact conv_bts (bts_below (w := w6.drew) (bts_take HT6.out) hW) (by rw [List.length_take, HL0.out]; have := HAL.out; omega)
        have hcvC : ∀ W', Ext w6.drew W' → (convert 29 9 (.slice (if d2 = a + k then A2 else Option.map (fun x => x.add (a + k)) A2) (4096 - (a + k)) (d2 - (a + k)))).run Try.prog W' = .ok (.string t2) W' := fun W' hW => by
          have := conv_bts (c := d2 - (a + k)) (bts_below (w := w6.drew) (bts_cut (k := a + k) (c := d2) HU6.out (by rw [HLS.out]; exact HFIT.out) (by rw [HLS.out]; exact hd2)) hW) (n := 4096 - (a + k)) (by rw [List.length_drop, HLS.out])
          rw [Nat.mul_one, HE2.out, ht2] at this
          exact this
        have hcvD : ∀ W', Ext w6.drew W' → (convert 29 9 (.slice (if d1 = a + k then A1 else Option.map (fun x => x.add (a + k)) A1) (4096 - (a + k)) (d1 - (a + k)))).run Try.prog W' = .ok (.string t2) W' := fun W' hW => by
          have := conv_bts (c := d1 - (a + k)) (bts_below (w := w6.drew) (bts_cut (k := a + k) (c := d1) HT6.out (by rw [HL0.out]; exact HFIT.out) (by rw [HL0.out]; exact hd1)) hW) (n := 4096 - (a + k)) (by rw [List.length_drop, HL0.out])
          rw [Nat.mul_one, ht2] at this
          exact this
        have hcvE : ∀ W', Ext w6.drew W' → (convert 29 9 (.slice A3 4096 d3)).run Try.prog W' = .ok (.string t3) W' := fun W' hW => by
          rw [← ht3]
          exact conv_bts (bts_below (w := w6.drew) HX6.out hW) zero_len
        have hcvF : ∀ W', Ext (w6.alloc (.cells zpg 5)).drew W' → (convert 29 9 (.slice (some ⟨w6.heap.size, 0, none⟩) 4096 4096)).run Try.prog W' = .ok (.string t3) W' := fun W' hW => by
          rw [← ht3]
          exact conv_bts (bts_below (w := (w6.alloc (.cells zpg 5)).drew) (zpg_bts w6) hW) zero_len
        clear ht1 ht2 ht3
        have e0 : IntKind.u64.wrap (k : Int) = (k : Int) := by rw [IntKind.wrap_u64]; omega
        have e1 : IntKind.u64.wrap ((a : Int) + (k : Int)) = (a : Int) + (k : Int) := by rw [IntKind.wrap_u64]; omega
        have e2 : ((a : Int) + (k : Int)).toNat = a + k := by omega
        have e3 : 0 ≤ (a : Int) + (k : Int) := by omega
        have e4 : (a : Int) ≤ (d1 : Int) := by omega
        have e5 : (a : Int) ≤ (d2 : Int) := by omega
        have hmk := make_pg
        refine wp_region_plan [(0, false), (1, false), (2, false), (3, false), (4, false), (5, false), (6, false), (7, false), (8, false), (9, false), (10, false), (11, false), (12, false), (13, false), (14, false), (15, false), (16, false), (17, false), (18, false), (19, false), (20, false), (21, false), (22, false), (23, false), (24, false), (25, false), (26, false), (27, false), (28, false), (29, true), (30, false), (31, false), (32, false), (33, false)] (by kernel_rfl) (by kernel_rfl) (fun _ d _ _ _ h => by cases d <;> exact h) ?_
        iterate 29 (refine plan_take (v := ?_) rfl (by kernel_rfl) ?_ ?_; rotate_left; (focus (intro w' hw'; go_simp; try with_reducible rfl)); simp only [Act.put, List.setIfInBounds_toArray, List.set_cons_zero, List.set_cons_succ])
        refine plan_turn rfl (by kernel_rfl) (fun K' hK' => ?_)
        go_simp
        refine hK' _ _ ⟨(Below.refl _ _).alloc (Nat.le_refl _) _, ?_⟩
        clear hK' K'
        try simp only [Act.put, List.setIfInBounds_toArray, List.set_cons_zero, List.set_cons_succ]
        iterate 4 (refine plan_take (v := ?_) rfl (by kernel_rfl) ?_ ?_; rotate_left; (focus (intro w' hw'; go_simp; try with_reducible rfl)); simp only [Act.put, List.setIfInBounds_toArray, List.set_cons_zero, List.set_cons_succ])
        refine plan_end ?_
        have HB7 := Lib.hid (HB6.out.alloc HB6.out.size (.cells zpg 5)).drew
        clear hcvA hcvB hcvC hcvD hcvE hcvF e0 e1 e2 e3 e4 e5 hmk
        go_wp2_with fail
        all_goals (go_ret; exact ⟨rfl, HB7.out⟩)
  · have HSR : Hid (stR 2 S a s v = S) := Lib.hid (if_neg hE)
    have hne : (chkE 2 a s != 0) = true := by simp; exact hE
    generalize hz : chkE 2 a s = z at *
    clear hz hE
    rw [HSR.out] at HM4
    go_wp2_with fail
    refine (Page_yes g 2 0 _ _ _ HM4.out (by decide)).mono ?_
    rintro e w5 ⟨v2, rfl, ho, hb⟩
    obtain ⟨q2, d2, rfl, hq2, hq2', hd2, hB⟩ := own_pg ho (HM4.out.len 0) (HM4.out.ltb 0)
    have hcv1 := conv_bts (c := d1) (bts_below HT4.out hb) (HM4.out.len 0)
    have hcv2 := conv_bts (c := d2) hB (HM4.out.len 0)
    have HB5 := Lib.hid (HB4.out.trans (hb.mono HB4.out.size))
    generalize strB (S 0) = t at *
    clear ho hb hB hq2 hq2'
    go_wp2_with fail
    go_ret
    exact ⟨by first | rfl | simp, HB5.out⟩
theorem Law.PhysWords (at_ s v : Int) (W : World) (ha : (Lit.int .u64 at_).wf = true) (_ : (Lit.int .i64 s).wf = true) (hv : (Lit.int .u64 v).wf = true) :
    Calls Try.prog 3 #[.int .u64 at_, .int .i64 s, .int .u64 v] W fun e w' => e = .returned (.bool true) ∧ Below W.heap.size W w' := by
  obtain ⟨at_, rfl⟩ := Int.eq_ofNat_of_zero_le (u64_of_wf ha).1
  obtain ⟨v, rfl⟩ := Int.eq_ofNat_of_zero_le (u64_of_wf hv).1
  exact words_walk at_ v s W (by have := (u64_of_wf hv).2; omega)
end Go.Proofs.Ytgdebfpepbomiaa
