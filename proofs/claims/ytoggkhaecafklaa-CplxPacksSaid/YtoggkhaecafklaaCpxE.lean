/- The reference's bits of a number that needs no rounding. -/
import Derived.Test.YtoggkhaecafklaaCpxD
namespace Go.Proofs.Ytoggkhaecafklaa
open Go.RowKit

def sgn (m : Bool) : Nat := if m then 2147483648 else 0
def shN (n : Nat) (q : Int) : Nat := if n = 0 then 0 else min (24 - bl n) (q + 149).toNat
def bitsF (m : Bool) (n : Nat) (q : Int) : Nat := if n * 2 ^ shN n q < 8388608 then sgn m + n * 2 ^ shN n q else sgn m + (q - shN n q + 150).toNat * 8388608 + n * 2 ^ shN n q - 8388608
def bitsR (m : Bool) (n : Nat) (q k : Int) : Nat := if k = 2 then 2143289344 else if k = 1 then sgn m + 2139095040 else bitsF m n q
theorem bl_two (n : Nat) (hn : n ≠ 0) : bl (n * 2) = bl n + 1 := by
  unfold bl
  rw [if_neg hn, if_neg (by omega), Nat.log2_def (n * 2), if_pos (by omega), Nat.mul_div_cancel _ (by decide)]
theorem bl_mul (n j : Nat) (hn : n ≠ 0) : bl (n * 2 ^ j) = bl n + j := by
  induction j with
  | zero => simp
  | succ j ih =>
    rw [Nat.pow_succ, ← Nat.mul_assoc, bl_two _ (Nat.mul_ne_zero hn (Nat.ne_of_gt (Nat.two_pow_pos j))), ih]
    rfl
theorem bl_nz {n : Nat} (hn : n ≠ 0) : 0 < bl n := by unfold bl; rw [if_neg hn]; omega
theorem wp_world' {P : Program} {c : Code} {Q : Exit → Act → World → Prop} {a : Act} {w : World} (h : ∀ w0, w0 = w → c.wp P Q a w0) : c.wp P Q a w := h w rfl
def expAt (w : World) (b : Nat) : Nat := match w.cell? ⟨b, 2, none⟩ with
  | some (.int _ x) => (x + 149).toNat
  | _ => 0
set_option maxRecDepth 100000 in
set_option maxHeartbeats 4000000 in
theorem bits_false_2 (n : Nat) (q : Int) (W : World) (hn : n < 16777216) (hq : -149 ≤ q) (hq2 : q ≤ 128) :
    Calls Try.prog 39 #[numV false n q 2] W fun e w' => e = .returned (.int .u64 (bitsR false n q 2 : Int)) ∧ Below W.heap.size W w' := by
  have HR : Hid (bitsR false n q 2 = 2143289344) := Lib.hid (by simp [bitsR, sgn])
  have HA := Lib.hid (Blkf.new_at W 40 (0, 0) #[.bool false, .int .u64 n, .int .i64 q, .int .i64 2] rfl)
  have HFI := Lib.hid (fun W => fit_id false n q 2 false W hn hq (by omega))
  unfold numV at HFI ⊢
  go_enter Try.func39, Try.ntmps39
  go_wp2
  go_ret
  exact ⟨by rw [HR.out]; rfl, (Below.refl _ W).alloc (Nat.le_refl _) _⟩
set_option maxRecDepth 100000 in
set_option maxHeartbeats 4000000 in
theorem bits_false_1 (n : Nat) (q : Int) (W : World) (hn : n < 16777216) (hq : -149 ≤ q) (hq2 : q ≤ 128) :
    Calls Try.prog 39 #[numV false n q 1] W fun e w' => e = .returned (.int .u64 (bitsR false n q 1 : Int)) ∧ Below W.heap.size W w' := by
  have HR : Hid (bitsR false n q 1 = 0 + 2139095040) := Lib.hid (by simp [bitsR, sgn])
  have HA := Lib.hid (Blkf.new_at W 40 (0, 0) #[.bool false, .int .u64 n, .int .i64 q, .int .i64 1] rfl)
  have HFI := Lib.hid (fun W => fit_id false n q 1 false W hn hq (by omega))
  unfold numV at HFI ⊢
  go_enter Try.func39, Try.ntmps39
  go_wp2_with fail
  refine (HFI.out _).mono ?_
  rintro e w1 ⟨rfl, hb1⟩
  have hA1 := HA.out.below hb1 HA.out.lt
  have HB1 := Lib.hid (((Below.refl _ W).alloc (Nat.le_refl _) (.cells #[.bool false, .int .u64 n, .int .i64 q, .int .i64 1] 40)).trans (hb1.mono (by simp)))
  obtain ⟨a0, a1, a2, a3, al, af⟩ := four hA1
  have hA2 := (((hA1.set_ 0 (.bool false)).set_ 1 (.int .u64 n)).set_ 2 (.int .i64 q)).set_ 3 (.int .i64 1)
  have hB2 := ((((HB1.out.setCell (p := ⟨W.heap.size, 0, none⟩) (Nat.le_refl _) (.bool false)).setCell (p := ⟨W.heap.size, 1, none⟩) (Nat.le_refl _) (.int .u64 n)).setCell (p := ⟨W.heap.size, 2, none⟩) (Nat.le_refl _) (.int .i64 q)).setCell (p := ⟨W.heap.size, 3, none⟩) (Nat.le_refl _) (.int .i64 1))
  simp only [List.setIfInBounds_toArray, List.set_cons_zero, List.set_cons_succ] at hA2
  have HA2 := Lib.hid hA2
  have HB2 := Lib.hid hB2
  clear hA1 hA2 hB2 hb1
  go_wp2_with fail
  refine wp_world' (fun W2 hW2 => ?_)
  rw [← hW2] at HA2 HB2
  clear hW2 HB1
  have hl2 := HA2.out.lt
  have s1 := fun W' (h : Ext W2.drew W') => (h.cell (p := ⟨W.heap.size, 1, none⟩) hl2).trans (HA2.out.drew.cell 1)
  have s2 := fun W' (h : Ext W2.drew W') => (h.cell (p := ⟨W.heap.size, 2, none⟩) hl2).trans (HA2.out.drew.cell 2)
  have s3 := fun W' (h : Ext W2.drew W') => (h.cell (p := ⟨W.heap.size, 3, none⟩) hl2).trans (HA2.out.drew.cell 3)
  refine wp_region_plan [(0, false), (1, false), (2, false), (3, false), (4, false), (5, false), (6, false), (7, false), (8, false), (9, false), (10, false), (11, false)] (by kernel_rfl) (by kernel_rfl) (fun _ d _ _ _ h => by cases d <;> exact h) ?_
  iterate 4 (refine plan_take (v := ?_) rfl (by kernel_rfl) ?_ ?_; rotate_left; (focus (intro w' hw'; try go_simp; try with_reducible rfl)); simp only [Act.put, List.setIfInBounds_toArray, List.set_cons_zero, List.set_cons_succ])
  iterate 7 (refine plan_skip rfl (by kernel_rfl) ?_; simp only [Act.put, List.setIfInBounds_toArray, List.set_cons_zero, List.set_cons_succ])
  iterate 1 (refine plan_take (v := ?_) rfl (by kernel_rfl) ?_ ?_; rotate_left; (focus (intro w' hw'; try go_simp; try with_reducible rfl)); simp only [Act.put, List.setIfInBounds_toArray, List.set_cons_zero, List.set_cons_succ])
  clear s1 s2 s3
  refine plan_end ?_
  go_wp2
  go_ret
  exact ⟨by rw [HR.out]; rfl, HB2.out.drew⟩
set_option maxRecDepth 100000 in
set_option maxHeartbeats 4000000 in
theorem bits_false_0 (n : Nat) (q : Int) (W : World) (hn : n < 16777216) (hq : -149 ≤ q) (hq2 : q ≤ 128) (hb : (bl n : Int) + q ≤ 128) :
    Calls Try.prog 39 #[numV false n q 0] W fun e w' => e = .returned (.int .u64 (bitsR false n q 0 : Int)) ∧ Below W.heap.size W w' := by
  have HR : Hid (bitsR false n q 0 = bitsF false n q) := Lib.hid (by simp [bitsR, sgn])
  have HA := Lib.hid (Blkf.new_at W 40 (0, 0) #[.bool false, .int .u64 n, .int .i64 q, .int .i64 0] rfl)
  have HFI := Lib.hid (fun W => fit_id false n q 0 false W hn hq (by omega))
  unfold numV at HFI ⊢
  go_enter Try.func39, Try.ntmps39
  go_wp2_with fail
  refine (HFI.out _).mono ?_
  rintro e w1 ⟨rfl, hb1⟩
  have hA1 := HA.out.below hb1 HA.out.lt
  have HB1 := Lib.hid (((Below.refl _ W).alloc (Nat.le_refl _) (.cells #[.bool false, .int .u64 n, .int .i64 q, .int .i64 0] 40)).trans (hb1.mono (by simp)))
  obtain ⟨a0, a1, a2, a3, al, af⟩ := four hA1
  have hA2 := (((hA1.set_ 0 (.bool false)).set_ 1 (.int .u64 n)).set_ 2 (.int .i64 q)).set_ 3 (.int .i64 0)
  have hB2 := ((((HB1.out.setCell (p := ⟨W.heap.size, 0, none⟩) (Nat.le_refl _) (.bool false)).setCell (p := ⟨W.heap.size, 1, none⟩) (Nat.le_refl _) (.int .u64 n)).setCell (p := ⟨W.heap.size, 2, none⟩) (Nat.le_refl _) (.int .i64 q)).setCell (p := ⟨W.heap.size, 3, none⟩) (Nat.le_refl _) (.int .i64 0))
  simp only [List.setIfInBounds_toArray, List.set_cons_zero, List.set_cons_succ] at hA2
  have HA2 := Lib.hid hA2
  have HB2 := Lib.hid hB2
  clear hA1 hA2 hB2 hb1
  go_wp2_with fail
  refine wp_world' (fun W2 hW2 => ?_)
  rw [← hW2] at HA2 HB2
  clear hW2 HB1
  have hl2 := HA2.out.lt
  have s1 := fun W' (h : Ext W2.drew W') => (h.cell (p := ⟨W.heap.size, 1, none⟩) hl2).trans (HA2.out.drew.cell 1)
  have s2 := fun W' (h : Ext W2.drew W') => (h.cell (p := ⟨W.heap.size, 2, none⟩) hl2).trans (HA2.out.drew.cell 2)
  have s3 := fun W' (h : Ext W2.drew W') => (h.cell (p := ⟨W.heap.size, 3, none⟩) hl2).trans (HA2.out.drew.cell 3)
  refine wp_region_plan [(0, false), (1, false), (2, false), (3, false), (4, false), (5, false), (6, false), (7, false), (8, false), (9, false), (10, false), (11, false)] (by kernel_rfl) (by kernel_rfl) (fun _ d _ _ _ h => by cases d <;> exact h) ?_
  iterate 6 (refine plan_take (v := ?_) rfl (by kernel_rfl) ?_ ?_; rotate_left; (focus (intro w' hw'; try go_simp; try with_reducible rfl)); simp only [Act.put, List.setIfInBounds_toArray, List.set_cons_zero, List.set_cons_succ])
  refine plan_quiet rfl (by kernel_rfl) (fun w' => by go_simp; all_goals (first | exact ⟨rfl, rfl⟩ | rfl)) (fun w' hw' => (bitlen_any n w' (by omega))) ?_
  simp only [Act.put, List.setIfInBounds_toArray, List.set_cons_zero, List.set_cons_succ]
  have hg : decide (128 < IntKind.i64.wrap (((bl n : Nat) : Int) + q)) = false := by rw [IntKind.wrap_i64]; simp only [decide_eq_false_iff_not]; omega
  iterate 5 (refine plan_take (v := ?_) rfl (by kernel_rfl) ?_ ?_; rotate_left; (focus (intro w' hw'; try go_simp; try with_reducible rfl)); simp only [Act.put, List.setIfInBounds_toArray, List.set_cons_zero, List.set_cons_succ])
  clear s1 s2 s3 hg
  refine plan_end ?_
  rw [show IntKind.i64.wrap (((bl n : Nat) : Int) + q) = ((bl n : Nat) : Int) + q from by rw [IntKind.wrap_i64]; have := bl_le (k := 24) (show n < 2 ^ 24 by omega); omega]
  have hB24 : bl n ≤ 24 := bl_le (by omega)
  have HBL := Lib.hid (fun j (h : n ≠ 0) => bl_mul n j h)
  have HNZ := Lib.hid (fun (h : n ≠ 0) => bl_nz h)
  have HBN := Lib.hid (bl_lt n)
  have HSH : Hid (shN n q = if n = 0 then 0 else min (24 - bl n) (q + 149).toNat) := Lib.hid rfl
  have HF : Hid (bitsF false n q = if n * 2 ^ shN n q < 8388608 then 0 + n * 2 ^ shN n q else 0 + (q - shN n q + 150).toNat * 8388608 + n * 2 ^ shN n q - 8388608) := Lib.hid rfl
  generalize shN n q = sh at *
  generalize bl n = B at *
  go_wp2_with fail
  go_loopw [25] (fun _ wr => ∃ j : Nat, j ≤ sh ∧ Blk wr W.heap.size 40 #[.bool false, .int .u64 ((n * 2 ^ j : Nat) : Int), .int .i64 (q - j), .int .i64 0] ∧ Below W.heap.size W wr) (fun _ wr => expAt wr W.heap.size)
  case atStart => exact ⟨0, by omega, by simpa using HA2.out.drew, HB2.out.drew⟩
  case round =>
    obtain ⟨j, hj, hB, hbw⟩ := hrel
    obtain ⟨b0, b1, b2, b3, bl', bf⟩ := four hB
    have HBK := Lib.hid hB
    have HW := Lib.hid hbw
    clear hB hbw
    have hP : 0 < 2 ^ j := Nat.two_pow_pos j
    have hmj : n * 2 ^ j < 16777216 ∧ (j < sh → n ≠ 0 ∧ B + j < 24 ∧ -149 < q - j) ∧ (¬ j < sh → n = 0 ∨ ¬ B + j < 24 ∨ ¬ -149 < q - j) := by
      have h0 := HSH.out
      have h1 := HBN.out
      by_cases hz : n = 0
      · rw [if_pos hz] at h0
        subst hz
        refine ⟨by simp, fun h => by omega, fun _ => .inl rfl⟩
      · rw [if_neg hz] at h0
        have hz2 := HNZ.out hz
        refine ⟨?_, fun h => ⟨hz, by omega, by omega⟩, fun h => .inr (by omega)⟩
        have h2 : 2 ^ B * 2 ^ j ≤ 16777216 := by
          rw [← Nat.pow_add]
          exact Nat.pow_le_pow_right (by decide) (show B + j ≤ 24 by omega)
        have h3 : n * 2 ^ j < 2 ^ B * 2 ^ j := Nat.mul_lt_mul_of_pos_right h1 hP
        omega
    have HBJ := Lib.hid (fun h => HBL.out j h)
    have HMJ := Lib.hid hmj.2
    have HZ : Hid (n = 0 ↔ n * 2 ^ j = 0) := Lib.hid ⟨fun h => by rw [h, Nat.zero_mul], fun h => (Nat.mul_eq_zero.1 h).resolve_right (by omega)⟩
    have HNX : Hid (n * 2 ^ (j + 1) = n * 2 ^ j * 2) := Lib.hid (by rw [Nat.pow_succ, Nat.mul_assoc])
    have hm := hmj.1
    generalize hMM : n * 2 ^ j = M at *
    have HMM := Lib.hid hMM
    clear hmj hMM hP
    by_cases hjs : j < sh
    · obtain ⟨h1, h2, h3⟩ := HMJ.out.1 hjs
      have hM0 : M ≠ 0 := fun h => h1 (HZ.out.2 h)
      have hM1 : (0 : Int) < (M : Int) := by omega
      have hb24 : ((B : Int) + j) < 24 := by omega
      have HBE := Lib.hid (HBJ.out h1)
      clear h1
      go_wp2_with fail
      refine (bitlen_any M _ (by omega)).mono ?_
      rintro e w5 ⟨rfl, rfl⟩
      rw [HBE.out]
      have hb24' : ((B + j : Nat) : Int) < 24 := by omega
      go_wp2_with fail
      go_roundw
      case rel =>
        refine ⟨j + 1, hjs, ?_, (HW.out.setCell (p := ⟨W.heap.size, 1, none⟩) (Nat.le_refl _) _).setCell (p := ⟨W.heap.size, 2, none⟩) (Nat.le_refl _) _⟩
        have h9 := (HBK.out.set_ 1 (.int .u64 ((M : Int) * 2))).set_ 2 (.int .i64 (q - j - 1))
        rw [HNX.out, show q - ((j + 1 : Nat) : Int) = q - j - 1 by omega, show ((M * 2 : Nat) : Int) = (M : Int) * 2 by omega]
        simpa using h9
      case measure =>
        have h9 := (HBK.out.set_ 1 (.int .u64 ((M : Int) * 2))).set_ 2 (.int .i64 (q - j - 1))
        have e1 := h9.cell 2
        have e2 := HBK.out.cell 2
        simp only [List.setIfInBounds_toArray, List.set_cons_zero, List.set_cons_succ] at e1
        unfold expAt
        rw [e1, e2]
        show (q - j - 1 + 149).toNat < (q - j + 149).toNat
        omega
    · have h1 := HMJ.out.2 hjs
      have HJS : Hid (j = sh) := Lib.hid (by omega)
      have HRR : Hid (bitsF false n q = if M < 8388608 then 0 + M else 0 + (q - j + 150).toNat * 8388608 + M - 8388608) := Lib.hid (by rw [HF.out, ← HJS.out, HMM.out])
      have hqj : -149 ≤ q - j := by
        have h0 := HSH.out
        rw [← HJS.out] at h0
        by_cases hz : n = 0
        · rw [if_pos hz] at h0; omega
        · rw [if_neg hz] at h0; omega
      obtain ⟨e, he⟩ : ∃ e : Nat, q - (j : Int) + 150 = e := ⟨(q - (j : Int) + 150).toNat, by omega⟩
      have hee : (q - (j : Int) + 150).toNat = e := by omega
      have HEE : Hid (bitsF false n q = if M < 8388608 then 0 + M else 0 + e * 8388608 + M - 8388608) := Lib.hid (by rw [HRR.out, hee])
      have he2 : e ≤ 278 := by omega
      have HQQ : Hid (∀ (h : M < 8388608), bitsF false n q = 0 + M) := Lib.hid (fun h => by rw [HEE.out, if_pos h])
      have HQ2 : Hid (∀ (h : ¬ M < 8388608), bitsF false n q = 0 + e * 8388608 + M - 8388608) := Lib.hid (fun h => by rw [HEE.out, if_neg h])
      clear hee
      rcases (show M = 0 ∨ (M ≠ 0 ∧ ¬ B + j < 24) ∨ (M ≠ 0 ∧ B + j < 24 ∧ ¬ -149 < q - j) by
        by_cases hz : M = 0
        · exact .inl hz
        · have := h1.resolve_left (fun h => hz (HZ.out.1 h)); omega) with rfl | ⟨hM, h2⟩ | ⟨hM, h2, h3⟩
      · clear h1 hqj he
        go_wp2
        go_ret
        exact ⟨by rw [HR.out, HQQ.out (by decide)]; rfl, HW.out⟩
      · have hM1 : (0 : Int) < (M : Int) := by omega
        have HBE := Lib.hid (HBJ.out (fun h => hM (HZ.out.1 h)))
        have HE := Lib.hid he
        have HH2 := Lib.hid h2
        clear h1 hqj he h2
        go_wp2_with fail
        refine (bitlen_any M _ (by omega)).mono ?_
        rintro e5 w5 ⟨rfl, rfl⟩
        have hM23 : ¬ M < 8388608 := fun h => by
          have h5 := bl_le (m := M) (k := 23) (by omega)
          rw [HBE.out] at h5
          have := HH2.out
          omega
        have h24 : ¬ ((B + j : Nat) : Int) < 24 := by have := HH2.out; omega
        have hM24 : 8388608 ≤ M := by omega
        have hres := HQ2.out hM23
        have HRES := Lib.hid hres
        have HMB := Lib.hid hm
        have HBE2 := Lib.hid hB24
        have HHB := Lib.hid hb
        clear hM23 hres hB24 hb
        rw [HBE.out]
        generalize B + j = bj at h24 ⊢
        have he := HE.out
        have hd : decide ((M : Int) < 8388608) = false := by simp only [decide_eq_false_iff_not]; omega
        have hd2 : decide (M < 8388608) = false := by simp only [decide_eq_false_iff_not]; omega
        dsimp only
        iterate 100 (try (first | go_values | go_skip | go_guarded | go_step | go_upon))
        refine bodyPost_ret (v := .int .u64 ((e : Int) * 8388608 + M - 8388608)) (by simp [results, Try.results39, go_sem]) rfl ⟨?_, HW.out⟩
        rw [HR.out, HRES.out]
        have := HMB.out
        rw [show ((0 + e * 8388608 + M - 8388608 : Nat) : Int) = (e : Int) * 8388608 + M - 8388608 by omega]
      · have hM1 : (0 : Int) < (M : Int) := by omega
        have HBE := Lib.hid (HBJ.out (fun h => hM (HZ.out.1 h)))
        have HH2 := Lib.hid h2
        clear h1 hqj he h2
        go_wp2_with fail
        refine (bitlen_any M _ (by omega)).mono ?_
        rintro e5 w5 ⟨rfl, rfl⟩
        have hM23 : M < 8388608 := by
          have h5 := bl_lt M
          rw [HBE.out] at h5
          have h6 : 2 ^ (B + j) ≤ 2 ^ 23 := Nat.pow_le_pow_right (by decide) (by have := HH2.out; omega)
          omega
        have h24 : ((B + j : Nat) : Int) < 24 := by have := HH2.out; omega
        have hM24 : M < 8388608 := hM23
        have hres := HQQ.out hM23
        have HRES := Lib.hid hres
        have HMB := Lib.hid hm
        have HBE2 := Lib.hid hB24
        have HHB := Lib.hid hb
        clear hM23 hres hB24 hb
        rw [HBE.out]
        generalize B + j = bj at h24 ⊢
        have hd : decide ((M : Int) < 8388608) = true := by simp only [decide_eq_true_eq]; omega
        have hd2 : decide (M < 8388608) = true := by simp only [decide_eq_true_eq]; omega
        have hd3 : decide (-149 < q - (j : Int)) = false := by simp only [decide_eq_false_iff_not]; omega
        dsimp only
        iterate 100 (try (first | go_values | go_skip | go_guarded | go_step | go_upon))
        refine bodyPost_ret (v := .int .u64 ((M : Int))) (by simp [results, Try.results39, go_sem]) rfl ⟨?_, HW.out⟩
        rw [HR.out, HRES.out]
        rw [show ((0 + M : Nat) : Int) = (M : Int) by omega]
set_option maxRecDepth 100000 in
set_option maxHeartbeats 4000000 in
theorem bits_true_2 (n : Nat) (q : Int) (W : World) (hn : n < 16777216) (hq : -149 ≤ q) (hq2 : q ≤ 128) :
    Calls Try.prog 39 #[numV true n q 2] W fun e w' => e = .returned (.int .u64 (bitsR true n q 2 : Int)) ∧ Below W.heap.size W w' := by
  have HR : Hid (bitsR true n q 2 = 2143289344) := Lib.hid (by simp [bitsR, sgn])
  have HA := Lib.hid (Blkf.new_at W 40 (0, 0) #[.bool true, .int .u64 n, .int .i64 q, .int .i64 2] rfl)
  have HFI := Lib.hid (fun W => fit_id true n q 2 false W hn hq (by omega))
  unfold numV at HFI ⊢
  go_enter Try.func39, Try.ntmps39
  go_wp2
  go_ret
  exact ⟨by rw [HR.out]; rfl, (Below.refl _ W).alloc (Nat.le_refl _) _⟩
set_option maxRecDepth 100000 in
set_option maxHeartbeats 4000000 in
theorem bits_true_1 (n : Nat) (q : Int) (W : World) (hn : n < 16777216) (hq : -149 ≤ q) (hq2 : q ≤ 128) :
    Calls Try.prog 39 #[numV true n q 1] W fun e w' => e = .returned (.int .u64 (bitsR true n q 1 : Int)) ∧ Below W.heap.size W w' := by
  have HR : Hid (bitsR true n q 1 = 2147483648 + 2139095040) := Lib.hid (by simp [bitsR, sgn])
  have HA := Lib.hid (Blkf.new_at W 40 (0, 0) #[.bool true, .int .u64 n, .int .i64 q, .int .i64 1] rfl)
  have HFI := Lib.hid (fun W => fit_id true n q 1 false W hn hq (by omega))
  unfold numV at HFI ⊢
  go_enter Try.func39, Try.ntmps39
  go_wp2_with fail
  refine (HFI.out _).mono ?_
  rintro e w1 ⟨rfl, hb1⟩
  have hA1 := HA.out.below hb1 HA.out.lt
  have HB1 := Lib.hid (((Below.refl _ W).alloc (Nat.le_refl _) (.cells #[.bool true, .int .u64 n, .int .i64 q, .int .i64 1] 40)).trans (hb1.mono (by simp)))
  obtain ⟨a0, a1, a2, a3, al, af⟩ := four hA1
  have hA2 := (((hA1.set_ 0 (.bool true)).set_ 1 (.int .u64 n)).set_ 2 (.int .i64 q)).set_ 3 (.int .i64 1)
  have hB2 := ((((HB1.out.setCell (p := ⟨W.heap.size, 0, none⟩) (Nat.le_refl _) (.bool true)).setCell (p := ⟨W.heap.size, 1, none⟩) (Nat.le_refl _) (.int .u64 n)).setCell (p := ⟨W.heap.size, 2, none⟩) (Nat.le_refl _) (.int .i64 q)).setCell (p := ⟨W.heap.size, 3, none⟩) (Nat.le_refl _) (.int .i64 1))
  simp only [List.setIfInBounds_toArray, List.set_cons_zero, List.set_cons_succ] at hA2
  have HA2 := Lib.hid hA2
  have HB2 := Lib.hid hB2
  clear hA1 hA2 hB2 hb1
  go_wp2_with fail
  refine wp_world' (fun W2 hW2 => ?_)
  rw [← hW2] at HA2 HB2
  clear hW2 HB1
  have hl2 := HA2.out.lt
  have s1 := fun W' (h : Ext W2.drew W') => (h.cell (p := ⟨W.heap.size, 1, none⟩) hl2).trans (HA2.out.drew.cell 1)
  have s2 := fun W' (h : Ext W2.drew W') => (h.cell (p := ⟨W.heap.size, 2, none⟩) hl2).trans (HA2.out.drew.cell 2)
  have s3 := fun W' (h : Ext W2.drew W') => (h.cell (p := ⟨W.heap.size, 3, none⟩) hl2).trans (HA2.out.drew.cell 3)
  refine wp_region_plan [(0, false), (1, false), (2, false), (3, false), (4, false), (5, false), (6, false), (7, false), (8, false), (9, false), (10, false), (11, false)] (by kernel_rfl) (by kernel_rfl) (fun _ d _ _ _ h => by cases d <;> exact h) ?_
  iterate 4 (refine plan_take (v := ?_) rfl (by kernel_rfl) ?_ ?_; rotate_left; (focus (intro w' hw'; try go_simp; try with_reducible rfl)); simp only [Act.put, List.setIfInBounds_toArray, List.set_cons_zero, List.set_cons_succ])
  iterate 7 (refine plan_skip rfl (by kernel_rfl) ?_; simp only [Act.put, List.setIfInBounds_toArray, List.set_cons_zero, List.set_cons_succ])
  iterate 1 (refine plan_take (v := ?_) rfl (by kernel_rfl) ?_ ?_; rotate_left; (focus (intro w' hw'; try go_simp; try with_reducible rfl)); simp only [Act.put, List.setIfInBounds_toArray, List.set_cons_zero, List.set_cons_succ])
  clear s1 s2 s3
  refine plan_end ?_
  go_wp2
  go_ret
  exact ⟨by rw [HR.out]; rfl, HB2.out.drew⟩
set_option maxRecDepth 100000 in
set_option maxHeartbeats 4000000 in
theorem bits_true_0 (n : Nat) (q : Int) (W : World) (hn : n < 16777216) (hq : -149 ≤ q) (hq2 : q ≤ 128) (hb : (bl n : Int) + q ≤ 128) :
    Calls Try.prog 39 #[numV true n q 0] W fun e w' => e = .returned (.int .u64 (bitsR true n q 0 : Int)) ∧ Below W.heap.size W w' := by
  have HR : Hid (bitsR true n q 0 = bitsF true n q) := Lib.hid (by simp [bitsR, sgn])
  have HA := Lib.hid (Blkf.new_at W 40 (0, 0) #[.bool true, .int .u64 n, .int .i64 q, .int .i64 0] rfl)
  have HFI := Lib.hid (fun W => fit_id true n q 0 false W hn hq (by omega))
  unfold numV at HFI ⊢
  go_enter Try.func39, Try.ntmps39
  go_wp2_with fail
  refine (HFI.out _).mono ?_
  rintro e w1 ⟨rfl, hb1⟩
  have hA1 := HA.out.below hb1 HA.out.lt
  have HB1 := Lib.hid (((Below.refl _ W).alloc (Nat.le_refl _) (.cells #[.bool true, .int .u64 n, .int .i64 q, .int .i64 0] 40)).trans (hb1.mono (by simp)))
  obtain ⟨a0, a1, a2, a3, al, af⟩ := four hA1
  have hA2 := (((hA1.set_ 0 (.bool true)).set_ 1 (.int .u64 n)).set_ 2 (.int .i64 q)).set_ 3 (.int .i64 0)
  have hB2 := ((((HB1.out.setCell (p := ⟨W.heap.size, 0, none⟩) (Nat.le_refl _) (.bool true)).setCell (p := ⟨W.heap.size, 1, none⟩) (Nat.le_refl _) (.int .u64 n)).setCell (p := ⟨W.heap.size, 2, none⟩) (Nat.le_refl _) (.int .i64 q)).setCell (p := ⟨W.heap.size, 3, none⟩) (Nat.le_refl _) (.int .i64 0))
  simp only [List.setIfInBounds_toArray, List.set_cons_zero, List.set_cons_succ] at hA2
  have HA2 := Lib.hid hA2
  have HB2 := Lib.hid hB2
  clear hA1 hA2 hB2 hb1
  go_wp2_with fail
  refine wp_world' (fun W2 hW2 => ?_)
  rw [← hW2] at HA2 HB2
  clear hW2 HB1
  have hl2 := HA2.out.lt
  have s1 := fun W' (h : Ext W2.drew W') => (h.cell (p := ⟨W.heap.size, 1, none⟩) hl2).trans (HA2.out.drew.cell 1)
  have s2 := fun W' (h : Ext W2.drew W') => (h.cell (p := ⟨W.heap.size, 2, none⟩) hl2).trans (HA2.out.drew.cell 2)
  have s3 := fun W' (h : Ext W2.drew W') => (h.cell (p := ⟨W.heap.size, 3, none⟩) hl2).trans (HA2.out.drew.cell 3)
  refine wp_region_plan [(0, false), (1, false), (2, false), (3, false), (4, false), (5, false), (6, false), (7, false), (8, false), (9, false), (10, false), (11, false)] (by kernel_rfl) (by kernel_rfl) (fun _ d _ _ _ h => by cases d <;> exact h) ?_
  iterate 6 (refine plan_take (v := ?_) rfl (by kernel_rfl) ?_ ?_; rotate_left; (focus (intro w' hw'; try go_simp; try with_reducible rfl)); simp only [Act.put, List.setIfInBounds_toArray, List.set_cons_zero, List.set_cons_succ])
  refine plan_quiet rfl (by kernel_rfl) (fun w' => by go_simp; all_goals (first | exact ⟨rfl, rfl⟩ | rfl)) (fun w' hw' => (bitlen_any n w' (by omega))) ?_
  simp only [Act.put, List.setIfInBounds_toArray, List.set_cons_zero, List.set_cons_succ]
  have hg : decide (128 < IntKind.i64.wrap (((bl n : Nat) : Int) + q)) = false := by rw [IntKind.wrap_i64]; simp only [decide_eq_false_iff_not]; omega
  iterate 5 (refine plan_take (v := ?_) rfl (by kernel_rfl) ?_ ?_; rotate_left; (focus (intro w' hw'; try go_simp; try with_reducible rfl)); simp only [Act.put, List.setIfInBounds_toArray, List.set_cons_zero, List.set_cons_succ])
  clear s1 s2 s3 hg
  refine plan_end ?_
  rw [show IntKind.i64.wrap (((bl n : Nat) : Int) + q) = ((bl n : Nat) : Int) + q from by rw [IntKind.wrap_i64]; have := bl_le (k := 24) (show n < 2 ^ 24 by omega); omega]
  have hB24 : bl n ≤ 24 := bl_le (by omega)
  have HBL := Lib.hid (fun j (h : n ≠ 0) => bl_mul n j h)
  have HNZ := Lib.hid (fun (h : n ≠ 0) => bl_nz h)
  have HBN := Lib.hid (bl_lt n)
  have HSH : Hid (shN n q = if n = 0 then 0 else min (24 - bl n) (q + 149).toNat) := Lib.hid rfl
  have HF : Hid (bitsF true n q = if n * 2 ^ shN n q < 8388608 then 2147483648 + n * 2 ^ shN n q else 2147483648 + (q - shN n q + 150).toNat * 8388608 + n * 2 ^ shN n q - 8388608) := Lib.hid rfl
  generalize shN n q = sh at *
  generalize bl n = B at *
  go_wp2_with fail
  go_loopw [25] (fun _ wr => ∃ j : Nat, j ≤ sh ∧ Blk wr W.heap.size 40 #[.bool true, .int .u64 ((n * 2 ^ j : Nat) : Int), .int .i64 (q - j), .int .i64 0] ∧ Below W.heap.size W wr) (fun _ wr => expAt wr W.heap.size)
  case atStart => exact ⟨0, by omega, by simpa using HA2.out.drew, HB2.out.drew⟩
  case round =>
    obtain ⟨j, hj, hB, hbw⟩ := hrel
    obtain ⟨b0, b1, b2, b3, bl', bf⟩ := four hB
    have HBK := Lib.hid hB
    have HW := Lib.hid hbw
    clear hB hbw
    have hP : 0 < 2 ^ j := Nat.two_pow_pos j
    have hmj : n * 2 ^ j < 16777216 ∧ (j < sh → n ≠ 0 ∧ B + j < 24 ∧ -149 < q - j) ∧ (¬ j < sh → n = 0 ∨ ¬ B + j < 24 ∨ ¬ -149 < q - j) := by
      have h0 := HSH.out
      have h1 := HBN.out
      by_cases hz : n = 0
      · rw [if_pos hz] at h0
        subst hz
        refine ⟨by simp, fun h => by omega, fun _ => .inl rfl⟩
      · rw [if_neg hz] at h0
        have hz2 := HNZ.out hz
        refine ⟨?_, fun h => ⟨hz, by omega, by omega⟩, fun h => .inr (by omega)⟩
        have h2 : 2 ^ B * 2 ^ j ≤ 16777216 := by
          rw [← Nat.pow_add]
          exact Nat.pow_le_pow_right (by decide) (show B + j ≤ 24 by omega)
        have h3 : n * 2 ^ j < 2 ^ B * 2 ^ j := Nat.mul_lt_mul_of_pos_right h1 hP
        omega
    have HBJ := Lib.hid (fun h => HBL.out j h)
    have HMJ := Lib.hid hmj.2
    have HZ : Hid (n = 0 ↔ n * 2 ^ j = 0) := Lib.hid ⟨fun h => by rw [h, Nat.zero_mul], fun h => (Nat.mul_eq_zero.1 h).resolve_right (by omega)⟩
    have HNX : Hid (n * 2 ^ (j + 1) = n * 2 ^ j * 2) := Lib.hid (by rw [Nat.pow_succ, Nat.mul_assoc])
    have hm := hmj.1
    generalize hMM : n * 2 ^ j = M at *
    have HMM := Lib.hid hMM
    clear hmj hMM hP
    by_cases hjs : j < sh
    · obtain ⟨h1, h2, h3⟩ := HMJ.out.1 hjs
      have hM0 : M ≠ 0 := fun h => h1 (HZ.out.2 h)
      have hM1 : (0 : Int) < (M : Int) := by omega
      have hb24 : ((B : Int) + j) < 24 := by omega
      have HBE := Lib.hid (HBJ.out h1)
      clear h1
      go_wp2_with fail
      refine (bitlen_any M _ (by omega)).mono ?_
      rintro e w5 ⟨rfl, rfl⟩
      rw [HBE.out]
      have hb24' : ((B + j : Nat) : Int) < 24 := by omega
      go_wp2_with fail
      go_roundw
      case rel =>
        refine ⟨j + 1, hjs, ?_, (HW.out.setCell (p := ⟨W.heap.size, 1, none⟩) (Nat.le_refl _) _).setCell (p := ⟨W.heap.size, 2, none⟩) (Nat.le_refl _) _⟩
        have h9 := (HBK.out.set_ 1 (.int .u64 ((M : Int) * 2))).set_ 2 (.int .i64 (q - j - 1))
        rw [HNX.out, show q - ((j + 1 : Nat) : Int) = q - j - 1 by omega, show ((M * 2 : Nat) : Int) = (M : Int) * 2 by omega]
        simpa using h9
      case measure =>
        have h9 := (HBK.out.set_ 1 (.int .u64 ((M : Int) * 2))).set_ 2 (.int .i64 (q - j - 1))
        have e1 := h9.cell 2
        have e2 := HBK.out.cell 2
        simp only [List.setIfInBounds_toArray, List.set_cons_zero, List.set_cons_succ] at e1
        unfold expAt
        rw [e1, e2]
        show (q - j - 1 + 149).toNat < (q - j + 149).toNat
        omega
    · have h1 := HMJ.out.2 hjs
      have HJS : Hid (j = sh) := Lib.hid (by omega)
      have HRR : Hid (bitsF true n q = if M < 8388608 then 2147483648 + M else 2147483648 + (q - j + 150).toNat * 8388608 + M - 8388608) := Lib.hid (by rw [HF.out, ← HJS.out, HMM.out])
      have hqj : -149 ≤ q - j := by
        have h0 := HSH.out
        rw [← HJS.out] at h0
        by_cases hz : n = 0
        · rw [if_pos hz] at h0; omega
        · rw [if_neg hz] at h0; omega
      obtain ⟨e, he⟩ : ∃ e : Nat, q - (j : Int) + 150 = e := ⟨(q - (j : Int) + 150).toNat, by omega⟩
      have hee : (q - (j : Int) + 150).toNat = e := by omega
      have HEE : Hid (bitsF true n q = if M < 8388608 then 2147483648 + M else 2147483648 + e * 8388608 + M - 8388608) := Lib.hid (by rw [HRR.out, hee])
      have he2 : e ≤ 278 := by omega
      have HQQ : Hid (∀ (h : M < 8388608), bitsF true n q = 2147483648 + M) := Lib.hid (fun h => by rw [HEE.out, if_pos h])
      have HQ2 : Hid (∀ (h : ¬ M < 8388608), bitsF true n q = 2147483648 + e * 8388608 + M - 8388608) := Lib.hid (fun h => by rw [HEE.out, if_neg h])
      clear hee
      rcases (show M = 0 ∨ (M ≠ 0 ∧ ¬ B + j < 24) ∨ (M ≠ 0 ∧ B + j < 24 ∧ ¬ -149 < q - j) by
        by_cases hz : M = 0
        · exact .inl hz
        · have := h1.resolve_left (fun h => hz (HZ.out.1 h)); omega) with rfl | ⟨hM, h2⟩ | ⟨hM, h2, h3⟩
      · clear h1 hqj he
        go_wp2
        go_ret
        exact ⟨by rw [HR.out, HQQ.out (by decide)]; rfl, HW.out⟩
      · have hM1 : (0 : Int) < (M : Int) := by omega
        have HBE := Lib.hid (HBJ.out (fun h => hM (HZ.out.1 h)))
        have HE := Lib.hid he
        have HH2 := Lib.hid h2
        clear h1 hqj he h2
        go_wp2_with fail
        refine (bitlen_any M _ (by omega)).mono ?_
        rintro e5 w5 ⟨rfl, rfl⟩
        have hM23 : ¬ M < 8388608 := fun h => by
          have h5 := bl_le (m := M) (k := 23) (by omega)
          rw [HBE.out] at h5
          have := HH2.out
          omega
        have h24 : ¬ ((B + j : Nat) : Int) < 24 := by have := HH2.out; omega
        have hM24 : 8388608 ≤ M := by omega
        have hres := HQ2.out hM23
        have HRES := Lib.hid hres
        have HMB := Lib.hid hm
        have HBE2 := Lib.hid hB24
        have HHB := Lib.hid hb
        clear hM23 hres hB24 hb
        rw [HBE.out]
        generalize B + j = bj at h24 ⊢
        have he := HE.out
        have hd : decide ((M : Int) < 8388608) = false := by simp only [decide_eq_false_iff_not]; omega
        have hd2 : decide (M < 8388608) = false := by simp only [decide_eq_false_iff_not]; omega
        dsimp only
        iterate 100 (try (first | go_values | go_skip | go_guarded | go_step | go_upon))
        refine bodyPost_ret (v := .int .u64 (2147483648 + (e : Int) * 8388608 + M - 8388608)) (by simp [results, Try.results39, go_sem]) rfl ⟨?_, HW.out⟩
        rw [HR.out, HRES.out]
        have := HMB.out
        rw [show ((2147483648 + e * 8388608 + M - 8388608 : Nat) : Int) = 2147483648 + (e : Int) * 8388608 + M - 8388608 by omega]
      · have hM1 : (0 : Int) < (M : Int) := by omega
        have HBE := Lib.hid (HBJ.out (fun h => hM (HZ.out.1 h)))
        have HH2 := Lib.hid h2
        clear h1 hqj he h2
        go_wp2_with fail
        refine (bitlen_any M _ (by omega)).mono ?_
        rintro e5 w5 ⟨rfl, rfl⟩
        have hM23 : M < 8388608 := by
          have h5 := bl_lt M
          rw [HBE.out] at h5
          have h6 : 2 ^ (B + j) ≤ 2 ^ 23 := Nat.pow_le_pow_right (by decide) (by have := HH2.out; omega)
          omega
        have h24 : ((B + j : Nat) : Int) < 24 := by have := HH2.out; omega
        have hM24 : M < 8388608 := hM23
        have hres := HQQ.out hM23
        have HRES := Lib.hid hres
        have HMB := Lib.hid hm
        have HBE2 := Lib.hid hB24
        have HHB := Lib.hid hb
        clear hM23 hres hB24 hb
        rw [HBE.out]
        generalize B + j = bj at h24 ⊢
        have hd : decide ((M : Int) < 8388608) = true := by simp only [decide_eq_true_eq]; omega
        have hd2 : decide (M < 8388608) = true := by simp only [decide_eq_true_eq]; omega
        have hd3 : decide (-149 < q - (j : Int)) = false := by simp only [decide_eq_false_iff_not]; omega
        dsimp only
        iterate 100 (try (first | go_values | go_skip | go_guarded | go_step | go_upon))
        refine bodyPost_ret (v := .int .u64 (2147483648 + (M : Int))) (by simp [results, Try.results39, go_sem]) rfl ⟨?_, HW.out⟩
        rw [HR.out, HRES.out]
        rw [show ((2147483648 + M : Nat) : Int) = 2147483648 + (M : Int) by omega]
end Go.Proofs.Ytoggkhaecafklaa
