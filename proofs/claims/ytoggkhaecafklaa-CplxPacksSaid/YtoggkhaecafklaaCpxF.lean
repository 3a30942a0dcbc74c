/- Whole numbers, and words of two parts: the reference's. -/
import Derived.Test.YtoggkhaecafklaaCpxE
import Derived.Laws.FloatArith
namespace Go.Proofs.Ytoggkhaecafklaa
open Go.RowKit

def wholeF (n : Int) : Nat := floatOfInt .f32 n
theorem wholeF_lt (n : Int) : wholeF n < 4294967296 := by
  have h := FloatKind.f32.format.write_lt (.number (n < 0) n.natAbs 0)
  exact h
theorem whole_all : ((List.range 256).all fun k => decide (bitsR (decide ((k : Int) - 128 < 0)) ((k : Int) - 128).natAbs 0 0 = wholeF ((k : Int) - 128)) && !isN (wholeF ((k : Int) - 128)) && decide (bl ((k : Int) - 128).natAbs ≤ 8)) = true := by kernel_rfl
theorem whole_bits {n : Int} (h : -128 ≤ n) (h2 : n < 128) : bitsR (decide (n < 0)) n.natAbs 0 0 = wholeF n ∧ isN (wholeF n) = false ∧ bl n.natAbs ≤ 8 := by
  have h3 := List.all_eq_true.1 whole_all (n + 128).toNat (List.mem_range.2 (by omega))
  rw [show (((n + 128).toNat : Nat) : Int) - 128 = n by omega] at h3
  simp only [Bool.and_eq_true, decide_eq_true_eq, Bool.not_eq_true'] at h3
  exact ⟨h3.1.1, h3.1.2, h3.2⟩
theorem bits_all (m : Bool) (n : Nat) (q k : Int) (W : World) (hn : n < 16777216) (hq : -149 ≤ q) (hq2 : q ≤ 128) (hk : k = 0 ∨ k = 1 ∨ k = 2) (hb : k = 0 → (bl n : Int) + q ≤ 128) :
    Calls Try.prog 39 #[numV m n q k] W fun e w' => e = .returned (.int .u64 (bitsR m n q k : Int)) ∧ Below W.heap.size W w' := by
  rcases hk with rfl | rfl | rfl
  · cases m
    · exact bits_false_0 n q W hn hq hq2 (hb rfl)
    · exact bits_true_0 n q W hn hq hq2 (hb rfl)
  · cases m
    · exact bits_false_1 n q W hn hq hq2
    · exact bits_true_1 n q W hn hq hq2
  · cases m
    · exact bits_false_2 n q W hn hq hq2
    · exact bits_true_2 n q W hn hq hq2
/-- A number that needs no rounding. -/
def NumOk (m : Bool) (n : Nat) (q k : Int) : Prop := n < 16777216 ∧ -149 ≤ q ∧ q ≤ 128 ∧ (k = 0 ∨ k = 1 ∨ k = 2) ∧ (k = 0 → (bl n : Int) + q ≤ 128)
theorem numOk_of (b : Nat) : NumOk (nmMinus b) (nmMan b) (nmExp b) (nmKind b) := by
  have hE : nmE b < 256 := Nat.mod_lt _ (by decide)
  have hF : nmF b < 8388608 := Nat.mod_lt _ (by decide)
  unfold NumOk nmMan nmExp nmKind
  by_cases h1 : nmE b = 255
  · simp only [h1, if_true]
    refine ⟨by decide, by decide, by decide, ?_, ?_⟩
    · split <;> simp
    · split
      · intro h; cases h
      · intro h; cases h
  · by_cases h2 : nmE b = 0
    · simp only [h2]
      have := bl_le (m := nmF b) (k := 23) (by omega)
      refine ⟨by simp; omega, by simp, by simp, by simp, by simp; omega⟩
    · simp only [h1, h2, if_false]
      have := bl_le (m := nmF b + 8388608) (k := 24) (by omega)
      refine ⟨by omega, by omega, by omega, by simp, fun _ => by omega⟩
theorem numOk_small {n : Int} (h : -128 ≤ n) (h2 : n < 128) : NumOk (decide (n < 0)) n.natAbs 0 0 := ⟨by omega, by decide, by decide, by simp, fun _ => by have := (whole_bits h h2).2.2; omega⟩
theorem sgn_nm (b : Nat) (hb : b < 4294967296) : b = sgn (nmMinus b) + nmE b * 8388608 + nmF b := by
  unfold sgn nmMinus nmE nmF
  have h2 : b / 2147483648 % 2 < 2 := Nat.mod_lt _ (by decide)
  rcases (show b / 2147483648 % 2 = 0 ∨ b / 2147483648 % 2 = 1 by omega) with h | h
  · rw [h, show ((0 : Nat) == 1) = false from rfl, if_neg (by simp)]; omega
  · rw [h, show ((1 : Nat) == 1) = true from rfl, if_pos rfl]; omega
theorem bitsR_of (b : Nat) (hb : b < 4294967296) : bitsR (nmMinus b) (nmMan b) (nmExp b) (nmKind b) = if nmE b = 255 ∧ nmF b ≠ 0 then 2143289344 else b := by
  have hs := sgn_nm b hb
  have hE : nmE b < 256 := Nat.mod_lt _ (by decide)
  have hF : nmF b < 8388608 := Nat.mod_lt _ (by decide)
  unfold bitsR nmMan nmExp nmKind
  by_cases h1 : nmE b = 255
  · by_cases h2 : nmF b = 0
    · simp [h1, h2]; rw [h1, h2] at hs; omega
    · simp [h1, h2]
  · simp only [h1, if_false, false_and]
    rw [if_neg (by decide), if_neg (by decide)]
    unfold bitsF shN
    by_cases h2 : nmE b = 0
    · simp only [h2, if_true]
      have e : (if nmF b = 0 then 0 else min (24 - bl (nmF b)) ((-149 : Int) + 149).toNat) = 0 := by
        split
        · rfl
        · simp
      rw [e, Nat.pow_zero, Nat.mul_one, if_pos hF]
      rw [h2] at hs; omega
    · simp only [h2, if_false]
      have hbl : bl (nmF b + 8388608) = 24 := by
        have h3 := bl_le (m := nmF b + 8388608) (k := 24) (by omega)
        have h4 : 23 < bl (nmF b + 8388608) := (bl_pos _ 23).2 (by omega)
        omega
      have e : (if nmF b + 8388608 = 0 then 0 else min (24 - bl (nmF b + 8388608)) (((nmE b : Int) - 150) + 149).toNat) = 0 := by
        rw [hbl]; split
        · rfl
        · simp
      rw [e, Nat.pow_zero, Nat.mul_one, if_neg (by omega)]
      omega
theorem isN_nm : ∀ (b : Nat), b < 4294967296 → isN b = (decide (nmE b = 255) && decide (nmF b ≠ 0)) := by
  intro b hb
  have e : (Ieee.single.read b).isNaN = decide (2139095040 < b % 2147483648) := by
    have h1 : Ieee.single.signWeight = 2147483648 := by decide
    have h2 : Ieee.single.binade = 8388608 := by decide
    have h3 : Ieee.single.infRung = 2139095040 := by decide
    unfold Ieee.Format.read
    simp only [h1, h2, h3]
    generalize b % 2147483648 = r
    split
    · simp [Ieee.Datum.isNaN]; omega
    · split
      · simp [Ieee.Datum.isNaN]; omega
      · split
        · simp [Ieee.Datum.isNaN]; omega
        · simp [Ieee.Datum.isNaN]; omega
  unfold isN
  rw [e]
  unfold nmE nmF
  by_cases h : 2139095040 < b % 2147483648
  · rw [decide_eq_true h, decide_eq_true (show b / 8388608 % 256 = 255 by omega), decide_eq_true (show b % 8388608 ≠ 0 by omega)]
    rfl
  · rw [decide_eq_false h]
    by_cases h4 : b / 8388608 % 256 = 255
    · rw [decide_eq_true h4, decide_eq_false (show ¬ b % 8388608 ≠ 0 by omega)]
      rfl
    · rw [decide_eq_false h4]
      rfl
/-- Each word's part, packed again. -/
theorem partV_bits (b : Nat) (hb : b < 4294967296) : bitsR (nmMinus b) (nmMan b) (nmExp b) (nmKind b) = partV b := by
  rw [bitsR_of b hb]
  unfold partV
  rw [isN_nm b hb]
  by_cases h1 : nmE b = 255
  · by_cases h2 : nmF b = 0 <;> simp [h1, h2]
  · simp [h1]
theorem kind_nan (b : Nat) (hb : b < 4294967296) : (nmKind b == 2) = isN b := by
  rw [isN_nm b hb]
  unfold nmKind
  by_cases h1 : nmE b = 255
  · by_cases h2 : nmF b = 0 <;> simp [h1, h2]
  · simp [h1]
theorem kind_nan' (b : Nat) (hb : b < 4294967296) : decide (nmKind b = 2) = isN b := by
  rw [← kind_nan b hb]
  by_cases h : nmKind b = 2 <;> simp [h]
set_option maxHeartbeats 1000000 in
theorem word_any (m1 m2 : Bool) (n1 n2 : Nat) (q1 q2 k1 k2 : Int) (W : World) (h1 : NumOk m1 n1 q1 k1) (h2 : NumOk m2 n2 q2 k2) (g1 : bitsR m1 n1 q1 k1 < 4294967296) (g2 : bitsR m2 n2 q2 k2 < 4294967296) :
    Calls Try.prog 28 #[numV m1 n1 q1 k1, numV m2 n2 q2 k2] W fun e w' => e = .returned (.int .u64 ((bitsR m1 n1 q1 k1 + 4294967296 * bitsR m2 n2 q2 k2 : Nat) : Int)) ∧ Below W.heap.size W w' := by
  have C1 := Lib.hid (fun W => bits_all m1 n1 q1 k1 W h1.1 h1.2.1 h1.2.2.1 h1.2.2.2.1 h1.2.2.2.2)
  have C2 := Lib.hid (fun W => bits_all m2 n2 q2 k2 W h2.1 h2.2.1 h2.2.2.1 h2.2.2.2.1 h2.2.2.2.2)
  clear h1 h2
  have HA1 := Lib.hid ((Blkf.new_at W 40 (0, 0) #[.bool m1, .int .u64 n1, .int .i64 q1, .int .i64 k1] rfl).alloc (.cells #[.bool m2, .int .u64 n2, .int .i64 q2, .int .i64 k2] 40))
  have HA2 := Lib.hid (Blkf.new_at (n := W.heap.size + 1) (W.alloc (.cells #[.bool m1, .int .u64 n1, .int .i64 q1, .int .i64 k1] 40)) 40 (0, 0) #[.bool m2, .int .u64 n2, .int .i64 q2, .int .i64 k2] (by simp))
  have HB := Lib.hid (((Below.refl W.heap.size W).alloc (Nat.le_refl _) (.cells #[.bool m1, .int .u64 n1, .int .i64 q1, .int .i64 k1] 40)).alloc (by simp) (.cells #[.bool m2, .int .u64 n2, .int .i64 q2, .int .i64 k2] 40))
  unfold numV at *
  generalize bitsR m1 n1 q1 k1 = r1 at *
  generalize bitsR m2 n2 q2 k2 = r2 at *
  go_enter Try.func28, Try.ntmps28
  go_wp2_with fail
  refine wp_world' (fun W2 hW2 => ?_)
  rw [← hW2] at HA1 HA2 HB
  clear hW2
  have s1 : ∀ W', Ext W2.drew W' → W'.cell? ⟨W.heap.size, 0, none⟩ = some (.bool m1) ∧ W'.cell? ⟨W.heap.size, 1, none⟩ = some (.int .u64 n1) ∧ W'.cell? ⟨W.heap.size, 2, none⟩ = some (.int .i64 q1) ∧ W'.cell? ⟨W.heap.size, 3, none⟩ = some (.int .i64 k1) :=
    fun W' h => ⟨(h.cell (p := ⟨W.heap.size, 0, none⟩) HA1.out.lt).trans (HA1.out.drew.cell 0), (h.cell (p := ⟨W.heap.size, 1, none⟩) HA1.out.lt).trans (HA1.out.drew.cell 1), (h.cell (p := ⟨W.heap.size, 2, none⟩) HA1.out.lt).trans (HA1.out.drew.cell 2), (h.cell (p := ⟨W.heap.size, 3, none⟩) HA1.out.lt).trans (HA1.out.drew.cell 3)⟩
  have s2 : ∀ W', Ext W2.drew W' → W'.cell? ⟨W.heap.size + 1, 0, none⟩ = some (.bool m2) ∧ W'.cell? ⟨W.heap.size + 1, 1, none⟩ = some (.int .u64 n2) ∧ W'.cell? ⟨W.heap.size + 1, 2, none⟩ = some (.int .i64 q2) ∧ W'.cell? ⟨W.heap.size + 1, 3, none⟩ = some (.int .i64 k2) :=
    fun W' h => ⟨(h.cell (p := ⟨W.heap.size + 1, 0, none⟩) HA2.out.lt).trans (HA2.out.drew.cell 0), (h.cell (p := ⟨W.heap.size + 1, 1, none⟩) HA2.out.lt).trans (HA2.out.drew.cell 1), (h.cell (p := ⟨W.heap.size + 1, 2, none⟩) HA2.out.lt).trans (HA2.out.drew.cell 2), (h.cell (p := ⟨W.heap.size + 1, 3, none⟩) HA2.out.lt).trans (HA2.out.drew.cell 3)⟩
  refine wp_region_plan [(0, false), (2, false), (1, true), (3, true), (4, false), (5, false), (6, false)] (by kernel_rfl) (by kernel_rfl) (fun _ d _ _ _ h => by cases d <;> exact h) ?_
  refine plan_take (v := .agg #[.bool m1, .int .u64 n1, .int .i64 q1, .int .i64 k1]) rfl (by kernel_rfl) ?_ ?_
  · intro w' hw'
    obtain ⟨x0, x1, x2, x3⟩ := s1 w' hw'
    go_simp
  simp only [Act.put, List.setIfInBounds_toArray, List.set_cons_zero, List.set_cons_succ]
  refine plan_take (v := .agg #[.bool m2, .int .u64 n2, .int .i64 q2, .int .i64 k2]) rfl (by kernel_rfl) ?_ ?_
  · intro w' hw'
    obtain ⟨x0, x1, x2, x3⟩ := s2 w' hw'
    go_simp
  simp only [Act.put, List.setIfInBounds_toArray, List.set_cons_zero, List.set_cons_succ]
  clear s1 s2
  refine plan_call rfl (by kernel_rfl) (by go_simp; exact ⟨rfl, rfl⟩) ?_
  refine (C1.out _).mono ?_
  rintro e w3 ⟨rfl, hb3⟩
  refine ⟨_, rfl, hb3, ?_⟩
  simp only [Act.put, List.setIfInBounds_toArray, List.set_cons_zero, List.set_cons_succ]
  refine plan_call rfl (by kernel_rfl) (by go_simp; exact ⟨rfl, rfl⟩) ?_
  refine (C2.out _).mono ?_
  rintro e w4 ⟨rfl, hb4⟩
  refine ⟨_, rfl, hb4, ?_⟩
  simp only [Act.put, List.setIfInBounds_toArray, List.set_cons_zero, List.set_cons_succ]
  iterate 3 (refine plan_take (v := ?_) rfl (by kernel_rfl) ?_ ?_; rotate_left; (focus (intro w' hw'; try go_simp; try with_reducible rfl)); simp only [Act.put, List.setIfInBounds_toArray, List.set_cons_zero, List.set_cons_succ])
  refine plan_end ?_
  go_wp2
  go_ret
  have hbb := (HB.out.drew.trans (hb3.mono HB.out.size)).trans (hb4.mono (Nat.le_trans HB.out.size hb3.size))
  have he : IntKind.u64.wrap ((r1 : Int) + IntKind.u64.wrap (4294967296 * (r2 : Int))) = ((r1 + 4294967296 * r2 : Nat) : Int) := by
    rw [IntKind.wrap_u64, IntKind.wrap_u64]; omega
  exact ⟨by rw [← he]; rfl, hbb⟩
theorem plain_any (x : Nat) (W : World) (hx : x < 18446744073709551616) :
    Calls Try.prog 10 #[.int .u64 x] W fun e w' => e = .returned (.int .u64 ((partV (x % 4294967296) + 4294967296 * partV (x / 4294967296) : Nat) : Int)) ∧ Below W.heap.size W w' := by
  have hl : x % 4294967296 < 4294967296 := Nat.mod_lt _ (by decide)
  have hh : x / 4294967296 < 4294967296 := by omega
  have HC := Lib.hid (fun W => word_any _ _ _ _ _ _ _ _ W (numOk_of (x % 4294967296)) (numOk_of (x / 4294967296)) (by rw [partV_bits _ hl]; exact partV_lt _ hl) (by rw [partV_bits _ hh]; exact partV_lt _ hh))
  rw [partV_bits _ hl, partV_bits _ hh] at HC
  have HL := Lib.hid (fun W => low_any x W hx)
  have HH := Lib.hid (fun W => high_any x W hx)
  unfold lowV at HL
  unfold highV at HH
  go_enter Try.func10, Try.ntmps10
  go_wp2_with fail
  refine (HL.out _).mono ?_
  rintro e w1 ⟨rfl, hb1⟩
  go_wp2_with fail
  refine (HH.out _).mono ?_
  rintro e w2 ⟨rfl, hb2⟩
  go_wp2_with fail
  refine (HC.out _).mono ?_
  rintro e w3 ⟨rfl, hb3⟩
  go_wp2
  go_ret
  exact ⟨rfl, (hb1.trans (hb2.mono hb1.size)).trans (hb3.mono (Nat.le_trans hb1.size hb2.size))⟩
end Go.Proofs.Ytoggkhaecafklaa
