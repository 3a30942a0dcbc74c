/- A frame's bytes are a frame; the first look. -/
import Derived.Test.YtidfhdkalnaddaaWireO
import Derived.Lib.SlBytesConst
namespace Go.Proofs.Ytidfhdkalnaddaa
open Go.RowKit

theorem byteOf_zero (v : Nat) : byteOf v 0 = v % 256 := by simp [byteOf]
theorem leNat_range : ∀ (q v : Nat), leNat ((List.range q).map (byteOf v)) = v % 256 ^ q
  | 0, v => by simp [leNat, Nat.mod_one]
  | q + 1, v => by
    rw [List.range_succ_eq_map, List.map_cons, List.map_map]
    have e : (List.range q).map (byteOf v ∘ Nat.succ) = (List.range q).map (byteOf (v / 256)) := by
      apply List.map_congr_left
      intro i _
      show v / 256 ^ (i + 1) % 256 = v / 256 / 256 ^ i % 256
      rw [Nat.pow_succ, Nat.mul_comm, Nat.div_div_eq_div_mul]
    rw [e]
    show byteOf v 0 + 256 * leNat _ = _
    rw [leNat_range q (v / 256), byteOf_zero, Nat.pow_succ, Nat.mul_comm (256 ^ q) 256, Nat.mod_mul]
theorem leNat_bytes (v q : Nat) (hq : sizeB q = true) (hv : v < 256 ^ q) : leNat (bytesOf v q) = v := by
  unfold bytesOf
  rw [hq, if_pos rfl]
  have : ((q : Int)).toNat = q := rfl
  rw [this, leNat_range, Nat.mod_eq_of_lt hv]
theorem plain_fields (f t : Nat) (b : Bool) (s a : Nat) (D : List Nat) (hs : s < 18446744073709551616) (ha : a < 18446744073709551616) (hn : D.length ≤ 5000) :
    headOK (plainL f t b s a D) = true ∧ fF (plainL f t b s a D) = f ∧ fT (plainL f t b s a D) = t ∧ fB (plainL f t b s a D) = b ∧ fS (plainL f t b s a D) = s ∧ fA (plainL f t b s a D) = a ∧ fZ (plainL f t b s a D) = D.length ∧ (plainL f t b s a D).drop 23 = D ∧ (plainL f t b s a D).length = 23 + D.length := by
  have hlen : (plainL f t b s a D).length = 23 + D.length := by
    rw [plain_form]
    simp [headL, e8, e2]
    omega
  have h5 : (plainL f t b s a D).drop 5 = bytesOf s 8 ++ (bytesOf a 8 ++ (bytesOf D.length 2 ++ D)) := by rw [plain_form]; rfl
  have h13 : (plainL f t b s a D).drop 13 = bytesOf a 8 ++ (bytesOf D.length 2 ++ D) := by
    rw [show (13 : Nat) = 5 + 8 from rfl, ← List.drop_drop, h5, List.drop_left' (e8 s)]
  have h21 : (plainL f t b s a D).drop 21 = bytesOf D.length 2 ++ D := by
    rw [show (21 : Nat) = 13 + 8 from rfl, ← List.drop_drop, h13, List.drop_left' (e8 a)]
  have h23 : (plainL f t b s a D).drop 23 = D := by
    rw [show (23 : Nat) = 21 + 2 from rfl, ← List.drop_drop, h21, List.drop_left' (e2 _)]
  have hb : bN b ≤ 1 := by cases b <;> decide
  refine ⟨?_, ?_, ?_, ?_, ?_, ?_, ?_, h23, hlen⟩
  · unfold headOK
    rw [hlen, plain_form]
    simp [headL, hb]
  · unfold fF; rw [plain_form]; rfl
  · unfold fT; rw [plain_form]; rfl
  · unfold fB; rw [plain_form]
    show (bN b == 1) = b
    cases b <;> rfl
  · unfold fS; rw [h5, List.take_left' (e8 s)]; exact leNat_bytes s 8 (by decide) (by omega)
  · unfold fA; rw [h13, List.take_left' (e8 a)]; exact leNat_bytes a 8 (by decide) (by omega)
  · unfold fZ; rw [h21, List.take_left' (e2 _)]; exact leNat_bytes2 _ (by omega)
theorem frame_sealed (f t : Nat) (b : Bool) (s a : Nat) (D : List Nat) (hf : f ≤ 15) (ht : t ≤ 15) (hs : s < 18446744073709551616) (ha : a < 18446744073709551616) (hn : D.length ≤ 5000) (hD : ∀ i : Nat, D.getD i 0 < 256) (hr : rightF f t b s D.length = true) :
    frameB (plainL f t b s a D ++ bytesOf (sumV (plainL f t b s a D)) 4) = true := by
  obtain ⟨h1, h2, h3, h4, h5, h6, h7, h8, h9⟩ := plain_fields f t b s a D hs ha hn
  unfold frameB
  rw [sealed_take, sealed_open _ (plain_lt f t s a D b hf ht hD), h1]
  unfold bodyOK
  rw [h2, h3, h4, h5, h7, h9, show 23 + D.length - 23 = D.length by omega, hr]
  simp
/-- Get of a frame's bytes. -/
theorem wget_yes (f t : Nat) (b : Bool) (s a : Nat) (D : List Nat) (A : Option Addr) (l : List Nat) (n c : Nat) (W : World) (hl : l.length = n) (hc : n ≤ c) (hB : Bts W A l) (hL : l = plainL f t b s a D ++ bytesOf (sumV (plainL f t b s a D)) 4)
    (hf : f ≤ 15) (ht : t ≤ 15) (hs : s < 18446744073709551616) (ha : a < 18446744073709551616) (hn : D.length ≤ 5000) (hD : ∀ i : Nat, D.getD i 0 < 256) (hr : rightF f t b s D.length = true) :
    Calls Try.prog 10 #[.slice A n c] W fun e w' => ∃ A' c', e = .returned (.tuple #[frV f t b s a A' D.length c', .bool true]) ∧ Bts w' A' D ∧ Below W.heap.size W w' := by
  obtain ⟨h1, h2, h3, h4, h5, h6, h7, h8, h9⟩ := plain_fields f t b s a D hs ha hn
  have hln : n ≤ 1000000 := by rw [← hl, hL, List.length_append, h9, bytes4]; omega
  refine (wget_any A l n c W hl hln hc hB).mono ?_
  intro e w' h
  unfold GetAny at h
  rw [show frameB l = true by rw [hL]; exact frame_sealed f t b s a D hf ht hs ha hn hD hr, if_pos rfl] at h
  obtain ⟨hb, A', c', he, hd⟩ := h
  rw [show l.take (l.length - 4) = plainL f t b s a D by rw [hL]; exact sealed_take _] at he hd
  rw [h2, h3, h4, h5, h6, h9, show 23 + D.length - 23 = D.length by omega] at he
  rw [h8] at hd
  exact ⟨A', c', he, hd, hb⟩
theorem first_text : ∃ L : List Nat, L = plainL 1 2 true 9 3 [97, 98] ++ bytesOf (sumV (plainL 1 2 true 9 3 [97, 98])) 4 ∧ L.length = 29 ∧ L.take 6 = [82, 82, 1, 1, 2, 9] ∧ ∀ i : Nat, L.getD i 0 < 256 :=
  ⟨_, rfl, by decide +kernel, by decide +kernel, append_lt (plain_lt 1 2 9 3 [97, 98] true (by decide) (by decide) (bytes_lt (by decide))) (bytesOf_lt _ _)⟩
set_option maxRecDepth 100000 in
set_option maxHeartbeats 2000000 in
theorem first16 (W : World) : Calls Try.prog 6 #[] W fun e w' => e = .returned (.bool true) ∧ Below W.heap.size W w' := by
  have kc := fun (C : Array Value) (n c : Nat) => Lib.run_convert_bytes_const (P := Try.prog) W 23 5 C n c Try.underlying23 Try.underlying5
  have hE1 : Below W.heap.size W ((W.alloc (.cells #[.int .u8 97, .int .u8 98] 5 (2, 3))).alloc (.cells #[.int .i64 1, .int .i64 2, .bool true, .int .u64 9, .int .u64 3, .slice (some ⟨W.heap.size, 0, none⟩) 2 2] 25)) := ((Below.refl _ W).alloc (Nat.le_refl _) _).alloc (by simp) _
  have hB1 : Bts ((W.alloc (.cells #[.int .u8 97, .int .u8 98] 5 (2, 3))).alloc (.cells #[.int .i64 1, .int .i64 2, .bool true, .int .u64 9, .int .u64 3, .slice (some ⟨W.heap.size, 0, none⟩) 2 2] 25)) (some ⟨W.heap.size, 0, none⟩) [97, 98] := bts_below (bts_lit W (2, 3) [97, 98] (bytes_lt (by decide)) _ rfl) ((Below.refl _ _).alloc (Nat.le_refl _) _)
  have hX1 : Blk ((W.alloc (.cells #[.int .u8 97, .int .u8 98] 5 (2, 3))).alloc (.cells #[.int .i64 1, .int .i64 2, .bool true, .int .u64 9, .int .u64 3, .slice (some ⟨W.heap.size, 0, none⟩) 2 2] 25)) (W.heap.size + 1) 25 #[.int .i64 1, .int .i64 2, .bool true, .int .u64 9, .int .u64 3, .slice (some ⟨W.heap.size, 0, none⟩) 2 2] := Blkf.new_at _ _ _ _ (by simp)
  have HE1 := Lib.hid hE1
  have HB1 := Lib.hid hB1
  have HX1 := Lib.hid hX1
  clear hE1 hB1 hX1
  go_enter Try.func6, Try.ntmps6
  go_wp2_with fail
  clear kc
  refine (wput_yes 1 2 true 9 3 (some ⟨W.heap.size, 0, none⟩) [97, 98] 2 2 _ (by decide) (by decide) (by decide) (by decide) rfl (by decide) HB1.out (by decide)).mono ?_
  rintro e w1 ⟨v, rfl, ho, hb⟩
  obtain ⟨L, hLe, hll, hl6, hlb⟩ := first_text
  rw [← hLe] at ho
  have HLB := Lib.hid hlb
  have HLE := Lib.hid hLe
  have HLL := Lib.hid hll
  have HL6 := Lib.hid hl6
  clear hlb hll hl6
  clear hLe
  obtain ⟨A1, c1, rfl, hB, -⟩ := bts_own ho HLB.out rfl
  rw [HLL.out] at ho ⊢
  have hcap := own_cap ho
  obtain ⟨k1, cap1, hv1, -, -⟩ := ho.form (by decide)
  injection hv1 with hv1 hv2 hv3
  clear hv2 hv3
  subst hv1
  have HB2 := Lib.hid hB
  have HE2 := Lib.hid (HE1.out.trans (hb.mono HE1.out.size))
  have HX2 := Lib.hid (HX1.out.below hb HX1.out.lt)
  have HD2 := Lib.hid (bts_below HB1.out hb)
  have HCAP := Lib.hid hcap
  clear ho hb hB
  go_wp2_with fail
  refine (wget_yes 1 2 true 9 3 [97, 98] (some ⟨k1, 0, none⟩) L 29 c1 _ HLL.out HCAP.out HB2.out HLE.out (by decide) (by decide) (by decide) (by decide) (by decide) (bytes_lt (by decide)) (by decide)).mono ?_
  rintro e w3 ⟨A3, c3, rfl, hd, hb⟩
  have HE3 := Lib.hid (HE2.out.trans (hb.mono HE2.out.size))
  have HX3 := Lib.hid (HX2.out.below hb HX2.out.lt)
  have HB3 := Lib.hid (bts_below HB2.out hb)
  have HD3 := Lib.hid (bts_below HD2.out hb)
  have HD3' := Lib.hid hd
  clear hd hb
  unfold frV
  go_wp2_with fail
  refine (wput_no 1 1 false 0 0 none 0 0 _ (by decide) (by decide)).mono ?_
  rintro e w4 ⟨rfl, hb⟩
  have hY4 := (Blkf.new_at w3 25 (0, 0) #[.int .i64 1, .int .i64 2, .bool true, .int .u64 9, .int .u64 3, .slice A3 2 c3] rfl)
  have hA4 : Below w3.heap.size w3 (w3.alloc (.cells #[.int .i64 1, .int .i64 2, .bool true, .int .u64 9, .int .u64 3, .slice A3 2 c3] 25)) := (Below.refl _ _).alloc (Nat.le_refl _) _
  have hb' : Below w3.heap.size w3 w4 := hA4.trans (hb.mono hA4.size)
  have hY := hY4.below hb hY4.lt
  have hX := HX3.out.below hb' HX3.out.lt
  have HE4 := Lib.hid (HE3.out.trans (hb'.mono HE3.out.size))
  have HB4 := Lib.hid (bts_below HB3.out hb')
  have HD4 := Lib.hid (bts_below HD3.out hb')
  have HD4' := Lib.hid (bts_below HD3'.out hb')
  have y0 := hY.cell 0
  have x0 := hX.cell 0
  have y1 := hY.cell 1
  have x1 := hX.cell 1
  have y2 := hY.cell 2
  have x2 := hX.cell 2
  have y3 := hY.cell 3
  have x3 := hX.cell 3
  have y4 := hY.cell 4
  have x4 := hX.cell 4
  have y5 := hY.cell 5
  have x5 := hX.cell 5
  simp at y0 y1 y2 y3 y4 y5 x0 x1 x2 x3 x4 x5
  have hcv : (convert 23 9 (.slice (some ⟨k1, 0, none⟩) 6 c1)).run Try.prog w4 = .ok (.string ⟨#[82, 82, 1, 1, 2, 9]⟩) w4 := by
    have := conv_bts (c := c1) (bts_take (k := 6) HB4.out) (n := 6) (by rw [HL6.out]; rfl)
    rw [this, HL6.out]
    rfl
  have h6 : (6 : Int) ≤ (c1 : Int) := by omega
  clear hA4 hb hb' hY4 hX hY
  go_wp2_with fail
  refine (same_yes 1 2 true 9 3 A3 (some ⟨W.heap.size, 0, none⟩) [97, 98] 2 c3 2 _ rfl HD4'.out HD4.out).mono ?_
  rintro e w5 ⟨rfl, hb⟩
  have HE5 := Lib.hid (HE4.out.trans (hb.mono HE4.out.size))
  clear hb
  go_wp2
  go_ret
  exact ⟨rfl, HE5.out⟩
end Go.Proofs.Ytidfhdkalnaddaa
