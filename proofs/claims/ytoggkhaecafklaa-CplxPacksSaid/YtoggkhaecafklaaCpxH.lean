/- What is asked first; the law of packing. -/
import Derived.Test.YtoggkhaecafklaaCpxG
namespace Go.Proofs.Ytoggkhaecafklaa
open Go.RowKit

def packW (a b : Int) : Nat := wholeF a + 4294967296 * wholeF b
theorem packW_lt (a b : Int) : packW a b < 18446744073709551616 := by
  have := wholeF_lt a
  have := wholeF_lt b
  unfold packW; omega
def CW (a b : Int) (r : Nat) : Prop := ∀ W, Calls Try.prog 13 #[.int .i8 a, .int .i8 b] W fun e w' => e = .returned (.int .u64 (r : Int)) ∧ W = w'
theorem cw (a b : Int) (ha : -128 ≤ a) (ha2 : a < 128) (hb : -128 ≤ b) (hb2 : b < 128) : CW a b (packW a b) := fun W => whole_any a b W ha ha2 hb hb2
theorem mul_first (W : World) : Calls Try.prog 15 #[.int .u64 (packW 1 2 : Nat), .int .u64 (packW 3 (-1) : Nat)] W fun e w' => e = .returned (.int .u64 (packW 5 5 : Nat)) ∧ W = w' := by
  refine mul_at _ _ 4607182418800017408 4611686018427387904 4613937818241073152 13830554455654793216 4613937818241073152 13835058055282163712 13830554455654793216 4618441417868443648 4617315517961601024 4617315517961601024 _ W
    (Lib.hid fun W => wide_at _ _ _ W (packW_lt _ _) (by kernel_rfl)) (Lib.hid fun W => wide_at _ _ _ W (packW_lt _ _) (by kernel_rfl)) (by kernel_rfl) (by kernel_rfl) (by kernel_rfl) (by kernel_rfl) (by kernel_rfl) (by kernel_rfl) (Lib.hid fun W => ?_)
  have h := narrow_at 4617315517961601024 4617315517961601024 (wholeF 5) (wholeF 5) W (by kernel_rfl) (by kernel_rfl) (wholeF_lt 5) (wholeF_lt 5)
  rw [show partV (wholeF 5) = wholeF 5 by kernel_rfl] at h
  exact h
theorem norm_first (W : World) : Calls Try.prog 17 #[.int .u64 (packW 3 4 : Nat)] W fun e w' => e = .returned (.int .u64 (packW 25 0 : Nat)) ∧ W = w' := by
  refine norm_at _ 4613937818241073152 4616189618054758400 4621256167635550208 4625196817309499392 4627730092099895296 _ W
    (Lib.hid fun W => wide_at _ _ _ W (packW_lt _ _) (by kernel_rfl)) (by kernel_rfl) (by kernel_rfl) (by kernel_rfl) (Lib.hid fun W => ?_)
  have h := narrow_at 4627730092099895296 0 (wholeF 25) (wholeF 0) W (by kernel_rfl) (by kernel_rfl) (wholeF_lt 25) (wholeF_lt 0)
  rw [show partV (wholeF 25) = wholeF 25 by kernel_rfl, show partV (wholeF 0) = wholeF 0 by kernel_rfl] at h
  exact h
theorem unpack_first (W : World) : Calls Try.prog 8 #[.int .u64 (packW (-2) 7 : Nat)] W fun e w' => e = .returned (.complex .f32 3221225472 1088421888) ∧ W = w' := by
  have h := unpack_any (packW (-2) 7) W (packW_lt _ _)
  rw [show packW (-2) 7 % 4294967296 = 3221225472 by kernel_rfl, show packW (-2) 7 / 4294967296 = 1088421888 by kernel_rfl] at h
  exact h
theorem nan_one (W : World) : Calls Try.prog 11 #[.int .u64 2143289344] W fun e w' => e = .returned (.bool true) ∧ W = w' := by
  have h := nan_any 2143289344 W (by decide)
  rw [show (isN (2143289344 % 4294967296) || isN (2143289344 / 4294967296)) = true by kernel_rfl] at h
  exact h
theorem nan_two (W : World) : Calls Try.prog 11 #[.int .u64 (packW 5 5 : Nat)] W fun e w' => e = .returned (.bool false) ∧ W = w' := by
  have h := nan_any (packW 5 5) W (packW_lt _ _)
  rw [show (isN (packW 5 5 % 4294967296) || isN (packW 5 5 / 4294967296)) = false by kernel_rfl] at h
  exact h
theorem eq_first (W : World) : (binOp .eql 25 (.complex .f32 3221225472 1088421888) (.complex .f32 3221225472 1088421888)).run Try.prog W = .ok (.bool true) W := by
  rw [ceql, show (!isN 3221225472 && !isN 1088421888) = true by kernel_rfl]
theorem first_any (W : World) : Calls Try.prog 7 #[] W fun e w' => e = .returned (.bool true) ∧ W = w' := by
  have H12 := Lib.hid (cw 1 2 (by decide) (by decide) (by decide) (by decide))
  have H31 := Lib.hid (cw 3 (-1) (by decide) (by decide) (by decide) (by decide))
  have H55 := Lib.hid (cw 5 5 (by decide) (by decide) (by decide) (by decide))
  have H34 := Lib.hid (cw 3 4 (by decide) (by decide) (by decide) (by decide))
  have H250 := Lib.hid (cw 25 0 (by decide) (by decide) (by decide) (by decide))
  have H10 : Hid (CW 1 0 1065353216) := Lib.hid (by have h := cw 1 0 (by decide) (by decide) (by decide) (by decide); rwa [show packW 1 0 = 1065353216 by kernel_rfl] at h)
  have H27 := Lib.hid (cw (-2) 7 (by decide) (by decide) (by decide) (by decide))
  have HM := Lib.hid mul_first
  have HN := Lib.hid norm_first
  have HU := Lib.hid unpack_first
  have HA := Lib.hid nan_one
  have HB := Lib.hid nan_two
  have he := eq_first
  generalize packW 1 2 = r12 at *
  generalize packW 3 (-1) = r31 at *
  generalize packW 5 5 = r55 at *
  generalize packW 3 4 = r34 at *
  generalize packW 25 0 = r250 at *
  generalize packW (-2) 7 = r27 at *
  go_enter Try.func7, Try.ntmps7
  go_wp2_with fail
  refine (H12.out _).mono ?_
  rintro e w1 ⟨rfl, rfl⟩
  go_wp2_with fail
  refine (H31.out _).mono ?_
  rintro e w1 ⟨rfl, rfl⟩
  go_wp2_with fail
  refine (HM.out _).mono ?_
  rintro e w1 ⟨rfl, rfl⟩
  go_wp2_with fail
  refine (H55.out _).mono ?_
  rintro e w1 ⟨rfl, rfl⟩
  go_wp2_with fail
  refine (H34.out _).mono ?_
  rintro e w1 ⟨rfl, rfl⟩
  go_wp2_with fail
  refine (HN.out _).mono ?_
  rintro e w1 ⟨rfl, rfl⟩
  go_wp2_with fail
  refine (H250.out _).mono ?_
  rintro e w1 ⟨rfl, rfl⟩
  go_wp2_with fail
  refine (H10.out _).mono ?_
  rintro e w1 ⟨rfl, rfl⟩
  go_wp2_with fail
  refine (H27.out _).mono ?_
  rintro e w1 ⟨rfl, rfl⟩
  go_wp2_with fail
  refine (HU.out _).mono ?_
  rintro e w1 ⟨rfl, rfl⟩
  go_wp2_with fail
  refine (HA.out _).mono ?_
  rintro e w1 ⟨rfl, rfl⟩
  go_wp2_with fail
  refine (HB.out _).mono ?_
  rintro e w1 ⟨rfl, rfl⟩
  go_wp2
  go_ret
  exact ⟨rfl, rfl⟩
namespace Law
theorem CplxPacks (a0 : Int) (a1 a2 : Int) (W : World) (w0 : (Lit.int .u64 a0).wf = true) (w1 : (Lit.int .i8 a1).wf = true) (w2 : (Lit.int .i8 a2).wf = true) :
    Calls Try.prog 3 #[.int .u64 a0, .int .i8 a1, .int .i8 a2] W fun e w' => e = .returned (.bool true) ∧ Below W.heap.size W w' := by
  obtain ⟨h0, h1⟩ := u64_of_wf w0
  obtain ⟨x, rfl⟩ : ∃ x : Nat, a0 = x := ⟨a0.toNat, by omega⟩
  have hx : x < 18446744073709551616 := by omega
  have hA : -128 ≤ a1 ∧ a1 < 128 := by
    simp [Lit.wf, IntKind.min, IntKind.max, IntKind.signed, IntKind.bits] at w1; omega
  have hB : -128 ≤ a2 ∧ a2 < 128 := by
    simp [Lit.wf, IntKind.min, IntKind.max, IntKind.signed, IntKind.bits] at w2; omega
  have hl : x % 4294967296 < 4294967296 := Nat.mod_lt _ (by decide)
  have hh : x / 4294967296 < 4294967296 := by omega
  have HF := Lib.hid first_any
  have HU := Lib.hid (fun W => unpack_any x W hx)
  have HP := Lib.hid (fun W => pack_any _ _ W hl hh)
  have HPl := Lib.hid (fun W => plain_any x W hx)
  have HN := Lib.hid (fun W => nan_any x W hx)
  have HRN := Lib.hid (fun W => rnan_any x W hx)
  have hcn := cneq 25 (x % 4294967296) (x / 4294967296)
  have HW := Lib.hid (fun W => whole_any a1 a2 W hA.1 hA.2 hB.1 hB.2)
  have HRW := Lib.hid (fun W => rwhole_any a1 a2 W hA.1 hA.2 hB.1 hB.2)
  have l1 := wholeF_lt a1
  have l2 := wholeF_lt a2
  have HU2 : Hid (∀ W, Calls Try.prog 8 #[.int .u64 ((wholeF a1 + 4294967296 * wholeF a2 : Nat) : Int)] W fun e w' => e = .returned (.complex .f32 (wholeF a1) (wholeF a2)) ∧ W = w') := Lib.hid (fun W => by
    have h := unpack_any (wholeF a1 + 4294967296 * wholeF a2) W (by omega)
    rwa [show (wholeF a1 + 4294967296 * wholeF a2) % 4294967296 = wholeF a1 by omega, show (wholeF a1 + 4294967296 * wholeF a2) / 4294967296 = wholeF a2 by omega] at h)
  have c1 := conv_whole a1
  have c2 := conv_whole a2
  have hce := ceql 25 (wholeF a1) (wholeF a2)
  rw [(whole_bits hA.1 hA.2).2.1, (whole_bits hB.1 hB.2).2.1] at hce
  simp only [Bool.not_false, Bool.and_self] at hce
  clear l1 l2 hA hB hx h0 h1 w0 w1 w2 hl hh
  generalize (isN (x % 4294967296) || isN (x / 4294967296)) = nn at *
  generalize x % 4294967296 = lo at *
  generalize x / 4294967296 = hi at *
  generalize (partV lo + 4294967296 * partV hi) = pk at *
  generalize (wholeF a1 + 4294967296 * wholeF a2) = wk at *
  generalize wholeF a1 = f1 at *
  generalize wholeF a2 = f2 at *
  go_enter Try.func3, Try.ntmps3
  go_wp2_with fail
  refine (HF.out _).mono ?_
  rintro e w1 ⟨rfl, rfl⟩
  go_wp2_with fail
  refine (HU.out _).mono ?_
  rintro e w1 ⟨rfl, rfl⟩
  go_wp2_with fail
  refine (HP.out _).mono ?_
  rintro e w1 ⟨rfl, rfl⟩
  go_wp2_with fail
  refine (HPl.out _).mono ?_
  rintro e w1 ⟨rfl, hb1⟩
  go_wp2_with fail
  refine (HN.out _).mono ?_
  rintro e w2 ⟨rfl, rfl⟩
  go_wp2_with fail
  refine (HRN.out _).mono ?_
  rintro e w3 ⟨rfl, hb3⟩
  go_wp2_with fail
  refine (HN.out _).mono ?_
  rintro e w2 ⟨rfl, rfl⟩
  go_wp2_with fail
  refine (HW.out _).mono ?_
  rintro e w2 ⟨rfl, rfl⟩
  go_wp2_with fail
  refine (HRW.out _).mono ?_
  rintro e w4 ⟨rfl, hb4⟩
  go_wp2_with fail
  refine (HW.out _).mono ?_
  rintro e w2 ⟨rfl, rfl⟩
  go_wp2_with fail
  refine (HU2.out _).mono ?_
  rintro e w2 ⟨rfl, rfl⟩
  go_wp2
  go_ret
  exact ⟨rfl, (hb1.trans (hb3.mono hb1.size)).trans (hb4.mono (Nat.le_trans hb1.size hb3.size))⟩
end Law
end Go.Proofs.Ytoggkhaecafklaa
