/- The law WireGets. -/
import Derived.Test.YtidfhdkalnaddaaWireQ
namespace Go.Proofs.Ytidfhdkalnaddaa
open Go.RowKit

namespace Law
set_option maxRecDepth 100000 in
set_option maxHeartbeats 4000000 in
theorem WireGets (A : Option Addr) (n c : Nat) (z : List Int) (W : World) (hz : IsRow .u8 W A n c z) (hbig : 1 * c ≤ 140737488351232) :
    Calls Try.prog 4 #[.slice A n c] W fun e w' => e = .returned (.bool true) ∧ Below W.heap.size W w' := by
  have hcap := row_cap hz
  obtain ⟨l, hl, hB, hn⟩ := bts_of_row hz
  have HB := Lib.hid hB
  have HL := Lib.hid hl
  clear hz hB hl hbig
  go_enter Try.func4, Try.ntmps4
  go_wp2_with fail
  refine (first16 _).mono ?_
  rintro e w1 ⟨rfl, hb⟩
  have HE1 := Lib.hid hb
  clear hb
  by_cases hbig : 5000 < n
  · have h5 : (5000 : Int) < (n : Int) := by omega
    go_wp2
    go_ret
    exact ⟨rfl, HE1.out⟩
  have h5 : ¬ (5000 : Int) < (n : Int) := by omega
  have hn5 : n ≤ 5000 := by omega
  clear hbig
  have HB1 := Lib.hid (bts_below HB.out HE1.out)
  go_wp2_with fail
  refine (wget_any A l n c _ HL.out (by omega) hcap HB1.out).mono ?_
  intro e w2 hg
  unfold GetAny at hg
  obtain ⟨hb, hg⟩ := hg
  cases hf : frameB l
  · rw [hf] at hg
    rw [if_neg (by decide)] at hg
    subst hg
    have HF := Lib.hid hf
    clear hf
    unfold noneV
    have hA2 : Below w2.heap.size w2 (w2.alloc (.cells #[.int .i64 0, .int .i64 0, .bool false, .int .u64 0, .int .u64 0, .slice none 0 0] 25)) := (Below.refl _ _).alloc (Nat.le_refl _) _
    have hX2 : Blk (w2.alloc (.cells #[.int .i64 0, .int .i64 0, .bool false, .int .u64 0, .int .u64 0, .slice none 0 0] 25)) w2.heap.size 25 #[.int .i64 0, .int .i64 0, .bool false, .int .u64 0, .int .u64 0, .slice none 0 0] := Blkf.new_at _ _ _ _ rfl
    have hb2 := hb.trans (hA2.mono hb.size)
    have HE2 := Lib.hid (HE1.out.trans (hb2.mono HE1.out.size))
    have HB2 := Lib.hid (bts_below HB1.out hb2)
    unfold frV
    obtain ⟨g, hg⟩ : ∃ g, g = w2.heap.size := ⟨_, rfl⟩
    go_wp2_with fail
    rw [← hg] at hX2 ⊢
    generalize w2.alloc (.cells #[.int .i64 0, .int .i64 0, .bool false, .int .u64 0, .int .u64 0, .slice none 0 0] 25) = w3 at *
    have HX3 := Lib.hid hX2
    clear hA2 hX2 hb2 hb hg
    refine (rget_any16 A l n c _ HL.out (by omega) hcap HB2.out).mono ?_
    intro e w4 hg
    unfold RGet at hg
    obtain ⟨hb, hg⟩ := hg
    rw [HF.out] at hg
    rw [if_neg (by decide)] at hg
    subst hg
    unfold noneV
    have hA4 : Below w4.heap.size w4 (w4.alloc (.cells #[.int .i64 0, .int .i64 0, .bool false, .int .u64 0, .int .u64 0, .slice none 0 0] 25)) := (Below.refl _ _).alloc (Nat.le_refl _) _
    have hY4 : Blk (w4.alloc (.cells #[.int .i64 0, .int .i64 0, .bool false, .int .u64 0, .int .u64 0, .slice none 0 0] 25)) w4.heap.size 25 #[.int .i64 0, .int .i64 0, .bool false, .int .u64 0, .int .u64 0, .slice none 0 0] := Blkf.new_at _ _ _ _ rfl
    have hb4 := hb.trans (hA4.mono hb.size)
    have HE4 := Lib.hid (HE2.out.trans (hb4.mono HE2.out.size))
    have hX4 := HX3.out.below hb4 HX3.out.lt
    unfold frV
    clear hb
    have x0 := hX4.cell 0
    have x1 := hX4.cell 1
    have x2 := hX4.cell 2
    have x3 := hX4.cell 3
    have x4 := hX4.cell 4
    have x5 := hX4.cell 5
    have xl := hX4.lt
    have xf := fun i => hX4.frozen i
    simp at x0 x1 x2 x3 x4 x5
    have y0 := hY4.cell 0
    have y1 := hY4.cell 1
    have y2 := hY4.cell 2
    have y3 := hY4.cell 3
    have y4 := hY4.cell 4
    have y5 := hY4.cell 5
    have yl := hY4.lt
    have yf := fun i => hY4.frozen i
    simp at y0 y1 y2 y3 y4 y5
    clear hX4 hY4 hA4 hb4
    go_wp2_with fail
    refine (rsame_yes 0 0 false 0 0 none none [] 0 0 0 _ rfl ⟨fun i => by simp, fun h => absurd h (by simp)⟩ ⟨fun i => by simp, fun h => absurd h (by simp)⟩).mono ?_
    rintro e w5 ⟨rfl, hb⟩
    have HE5 := Lib.hid (HE4.out.trans (hb.mono HE4.out.size))
    clear hb
    go_wp2
    go_ret
    exact ⟨rfl, HE5.out⟩
  · rw [hf] at hg
    rw [if_pos rfl] at hg
    obtain ⟨A2, c2, rfl, hd⟩ := hg
    have HF := Lib.hid hf
    clear hf
    obtain ⟨B, hBe⟩ : ∃ B, B = l.take (l.length - 4) := ⟨_, rfl⟩
    have HBE := Lib.hid hBe
    rw [← hBe] at hd ⊢
    obtain ⟨q, hq⟩ : ∃ q, q = B.length - 23 := ⟨_, rfl⟩
    have HQL : Hid ((B.drop 23).length = q) := Lib.hid (by rw [List.length_drop, hq])
    have HQ := Lib.hid hq
    rw [← hq]
    clear hBe hq
    have HD2 := Lib.hid hd
    clear hd
    generalize hf1 : fF B = f at *
    generalize hf2 : fT B = t at *
    generalize hf3 : fB B = b at *
    generalize hf4 : fS B = s at *
    generalize hf5 : fA B = a at *
    have H1 := Lib.hid hf1
    have H2 := Lib.hid hf2
    have H3 := Lib.hid hf3
    have H4 := Lib.hid hf4
    have H5 := Lib.hid hf5
    clear hf1 hf2 hf3 hf4 hf5
    have hA2 : Below w2.heap.size w2 (w2.alloc (.cells #[.int .i64 f, .int .i64 t, .bool b, .int .u64 s, .int .u64 a, .slice A2 q c2] 25)) := (Below.refl _ _).alloc (Nat.le_refl _) _
    have hX2 : Blk (w2.alloc (.cells #[.int .i64 f, .int .i64 t, .bool b, .int .u64 s, .int .u64 a, .slice A2 q c2] 25)) w2.heap.size 25 #[.int .i64 f, .int .i64 t, .bool b, .int .u64 s, .int .u64 a, .slice A2 q c2] := Blkf.new_at _ _ _ _ rfl
    have hb2 := hb.trans (hA2.mono hb.size)
    have HE2 := Lib.hid (HE1.out.trans (hb2.mono HE1.out.size))
    have HB2 := Lib.hid (bts_below HB1.out hb2)
    have HD3 := Lib.hid (bts_below HD2.out hA2)
    unfold frV
    obtain ⟨g, hg⟩ : ∃ g, g = w2.heap.size := ⟨_, rfl⟩
    go_wp2_with fail
    rw [← hg] at hX2 ⊢
    generalize w2.alloc (.cells #[.int .i64 f, .int .i64 t, .bool b, .int .u64 s, .int .u64 a, .slice A2 q c2] 25) = w3 at *
    have HX3 := Lib.hid hX2
    clear hA2 hX2 hb2 hb hg
    refine (rget_any16 A l n c _ HL.out (by omega) hcap HB2.out).mono ?_
    intro e w4 hg
    unfold RGet at hg
    obtain ⟨hb, hg⟩ := hg
    rw [HF.out] at hg
    rw [if_pos rfl, ← HBE.out, H1.out, H2.out, H3.out, H4.out, H5.out, ← HQ.out] at hg
    obtain ⟨A4, c4, rfl, hd⟩ := hg
    have hA4 : Below w4.heap.size w4 (w4.alloc (.cells #[.int .i64 f, .int .i64 t, .bool b, .int .u64 s, .int .u64 a, .slice A4 q c4] 25)) := (Below.refl _ _).alloc (Nat.le_refl _) _
    have hY4 : Blk (w4.alloc (.cells #[.int .i64 f, .int .i64 t, .bool b, .int .u64 s, .int .u64 a, .slice A4 q c4] 25)) w4.heap.size 25 #[.int .i64 f, .int .i64 t, .bool b, .int .u64 s, .int .u64 a, .slice A4 q c4] := Blkf.new_at _ _ _ _ rfl
    have hb4 := hb.trans (hA4.mono hb.size)
    have HE4 := Lib.hid (HE2.out.trans (hb4.mono HE2.out.size))
    have hX4 := HX3.out.below hb4 HX3.out.lt
    have HDA := Lib.hid (bts_below HD3.out hb4)
    have HDB := Lib.hid (bts_below hd hA4)
    unfold frV
    clear hb
    have x0 := hX4.cell 0
    have x1 := hX4.cell 1
    have x2 := hX4.cell 2
    have x3 := hX4.cell 3
    have x4 := hX4.cell 4
    have x5 := hX4.cell 5
    have xl := hX4.lt
    have xf := fun i => hX4.frozen i
    simp at x0 x1 x2 x3 x4 x5
    have y0 := hY4.cell 0
    have y1 := hY4.cell 1
    have y2 := hY4.cell 2
    have y3 := hY4.cell 3
    have y4 := hY4.cell 4
    have y5 := hY4.cell 5
    have yl := hY4.lt
    have yf := fun i => hY4.frozen i
    simp at y0 y1 y2 y3 y4 y5
    clear hX4 hY4 hA4 hb4
    go_wp2_with fail
    refine (rsame_yes f t b s a A2 A4 (B.drop 23) q c2 c4 _ HQL.out HDA.out HDB.out).mono ?_
    rintro e w5 ⟨rfl, hb⟩
    have HE5 := Lib.hid (HE4.out.trans (hb.mono HE4.out.size))
    clear hb
    go_wp2
    go_ret
    exact ⟨rfl, HE5.out⟩
end Law
end Go.Proofs.Ytidfhdkalnaddaa
