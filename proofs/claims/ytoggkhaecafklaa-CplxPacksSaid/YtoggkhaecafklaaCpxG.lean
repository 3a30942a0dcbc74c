/- Nan, Whole of both; numbers widened, multiplied, narrowed. -/
import Derived.Test.YtoggkhaecafklaaCpxF
import Derived.Laws.ComplexArith
namespace Go.Proofs.Ytoggkhaecafklaa
open Go.RowKit

theorem field3 (m : Bool) (n q k : Int) (W : World) : (Instr.field 40 (.agg #[.bool m, .int .u64 n, .int .i64 q, .int .i64 k]) 3).run Try.prog W = .ok (.int .i64 k) W := by kernel_rfl
theorem rnan_any (x : Nat) (W : World) (hx : x < 18446744073709551616) :
    Calls Try.prog 12 #[.int .u64 x] W fun e w' => e = .returned (.bool (isN (x % 4294967296) || isN (x / 4294967296))) ∧ Below W.heap.size W w' := by
  have hl : x % 4294967296 < 4294967296 := Nat.mod_lt _ (by decide)
  have hh : x / 4294967296 < 4294967296 := by omega
  have HL := Lib.hid (fun W => low_any x W hx)
  have HH := Lib.hid (fun W => high_any x W hx)
  unfold lowV numV at HL
  unfold highV numV at HH
  have hf := field3
  have h1 := kind_nan' _ hl
  have h2 := kind_nan' _ hh
  generalize isN (x % 4294967296) = a at *
  generalize isN (x / 4294967296) = b at *
  cases a with
  | true =>
    simp only [decide_eq_true_eq] at h1
    rw [h1] at HL
    clear h1 h2
    go_enter Try.func12, Try.ntmps12
    go_wp2_with fail
    refine (HL.out _).mono ?_
    rintro e w1 ⟨rfl, hb1⟩
    go_wp2
    go_ret
    exact ⟨rfl, hb1⟩
  | false =>
    simp only [decide_eq_false_iff_not] at h1
    go_enter Try.func12, Try.ntmps12
    go_wp2_with fail
    refine (HL.out _).mono ?_
    rintro e w1 ⟨rfl, hb1⟩
    generalize nmKind (x % 4294967296) = k at *
    have hk : ¬ k = 2 := h1
    clear h1
    go_wp2_with fail
    refine (HH.out _).mono ?_
    rintro e w2 ⟨rfl, hb2⟩
    generalize nmKind (x / 4294967296) = k2 at *
    go_wp2
    go_ret
    have hk3 : (k == 2) = false := by simpa using hk
    refine ⟨?_, hb1.trans (hb2.mono hb1.size)⟩
    show Ending.returned (Value.bool (k == 2 || k2 == 2)) = Ending.returned (Value.bool (false || b))
    rw [hk3, ← h2]
    rfl
theorem small_any (n : Int) (W : World) (h : -128 ≤ n) (h2 : n < 128) :
    Calls Try.prog 31 #[.int .i8 n] W fun e w' => e = .returned (numV (decide (n < 0)) n.natAbs 0 0) ∧ Below W.heap.size W w' := by
  by_cases hn : n < 0
  · obtain ⟨m, hm⟩ : ∃ m : Nat, -n = m := ⟨n.natAbs, by omega⟩
    rw [decide_eq_true hn, show n.natAbs = m by omega]
    go_enter Try.func31, Try.ntmps31
    go_wp2
    refine bodyPost_ret (v := numV true m 0 0) (by simp [results, Try.results31, go_sem, numV]) rfl ⟨rfl, (Below.refl _ W).alloc (Nat.le_refl _) _⟩
  · obtain ⟨m, rfl⟩ : ∃ m : Nat, n = m := ⟨n.natAbs, by omega⟩
    rw [decide_eq_false hn, show (m : Int).natAbs = m by omega]
    go_enter Try.func31, Try.ntmps31
    go_wp2
    refine bodyPost_ret (v := numV false m 0 0) (by simp [results, Try.results31, go_sem, numV]) rfl ⟨rfl, (Below.refl _ W).alloc (Nat.le_refl _) _⟩
theorem rwhole_any (a b : Int) (W : World) (ha : -128 ≤ a) (ha2 : a < 128) (hb : -128 ≤ b) (hb2 : b < 128) :
    Calls Try.prog 14 #[.int .i8 a, .int .i8 b] W fun e w' => e = .returned (.int .u64 ((wholeF a + 4294967296 * wholeF b : Nat) : Int)) ∧ Below W.heap.size W w' := by
  have HA := Lib.hid (fun W => small_any a W ha ha2)
  have HB := Lib.hid (fun W => small_any b W hb hb2)
  have HC := Lib.hid (fun W => word_any _ _ _ _ _ _ _ _ W (numOk_small ha ha2) (numOk_small hb hb2) (by rw [(whole_bits ha ha2).1]; exact wholeF_lt a) (by rw [(whole_bits hb hb2).1]; exact wholeF_lt b))
  rw [(whole_bits ha ha2).1, (whole_bits hb hb2).1] at HC
  clear ha ha2 hb hb2
  generalize wholeF a + 4294967296 * wholeF b = r at *
  go_enter Try.func14, Try.ntmps14
  go_wp2_with fail
  refine (HA.out _).mono ?_
  rintro e w1 ⟨rfl, hb1⟩
  go_wp2_with fail
  refine (HB.out _).mono ?_
  rintro e w2 ⟨rfl, hb2⟩
  go_wp2_with fail
  refine (HC.out _).mono ?_
  rintro e w3 ⟨rfl, hb3⟩
  go_wp2
  go_ret
  exact ⟨rfl, (hb1.trans (hb2.mono hb1.size)).trans (hb3.mono (Nat.le_trans hb1.size hb2.size))⟩
theorem conv_whole (n : Int) (W : World) : (convert 23 31 (.int .i8 n)).run Try.prog W = .ok (.float .f32 (wholeF n)) W := by
  simp [convert, run_underlying Try.underlying23, run_underlying Try.underlying31, Conv.intToFloat, wholeF, floatOfInt]
theorem whole_aux (a b : Int) (x y : Nat) (c1 : ∀ W, (convert 23 31 (.int .i8 a)).run Try.prog W = .ok (.float .f32 x) W) (c2 : ∀ W, (convert 23 31 (.int .i8 b)).run Try.prog W = .ok (.float .f32 y) W)
    (HP : Hid (∀ W, Calls Try.prog 9 #[.complex .f32 x y] W fun e w' => e = .returned (.int .u64 ((x + 4294967296 * y : Nat) : Int)) ∧ W = w')) (W : World) :
    Calls Try.prog 13 #[.int .i8 a, .int .i8 b] W fun e w' => e = .returned (.int .u64 ((x + 4294967296 * y : Nat) : Int)) ∧ W = w' := by
  go_enter Try.func13, Try.ntmps13
  go_wp2_with fail
  refine (HP.out _).mono ?_
  rintro e w1 ⟨rfl, rfl⟩
  go_wp2
  go_ret
  exact ⟨rfl, rfl⟩
theorem whole_any (a b : Int) (W : World) (ha : -128 ≤ a) (ha2 : a < 128) (hb : -128 ≤ b) (hb2 : b < 128) :
    Calls Try.prog 13 #[.int .i8 a, .int .i8 b] W fun e w' => e = .returned (.int .u64 ((wholeF a + 4294967296 * wholeF b : Nat) : Int)) ∧ W = w' := by
  have e1 : partV (wholeF a) = wholeF a := by unfold partV; rw [(whole_bits ha ha2).2.1]; exact if_neg (by decide)
  have e2 : partV (wholeF b) = wholeF b := by unfold partV; rw [(whole_bits hb hb2).2.1]; exact if_neg (by decide)
  refine whole_aux a b (wholeF a) (wholeF b) (conv_whole a) (conv_whole b) (Lib.hid fun W => ?_) W
  have h := pack_any (wholeF a) (wholeF b) W (wholeF_lt a) (wholeF_lt b)
  rw [e1, e2] at h
  exact h
theorem cneq (t : TypeId) (a b : Nat) (W : World) : (binOp .neq t (.complex .f32 a b) (.complex .f32 a b)).run Try.prog W = .ok (.bool (isN a || isN b)) W := by
  have h1 := order_self a
  have h2 := order_self b
  simp [binOp, Op.complexOp, Op.Complex.cmp, Op.floatCmp, asBool, h1, h2]
theorem ceql (t : TypeId) (a b : Nat) (W : World) : (binOp .eql t (.complex .f32 a b) (.complex .f32 a b)).run Try.prog W = .ok (.bool (!isN a && !isN b)) W := by
  have h1 := order_self a
  have h2 := order_self b
  simp [binOp, Op.complexOp, Op.Complex.cmp, Op.floatCmp, asBool, h1, h2]
theorem nan_any (x : Nat) (W : World) (hx : x < 18446744073709551616) :
    Calls Try.prog 11 #[.int .u64 x] W fun e w' => e = .returned (.bool (isN (x % 4294967296) || isN (x / 4294967296))) ∧ W = w' := by
  have HU := Lib.hid (fun W => unpack_any x W hx)
  have hc := cneq 25 (x % 4294967296) (x / 4294967296)
  generalize isN (x % 4294967296) = a at *
  generalize isN (x / 4294967296) = b at *
  generalize x % 4294967296 = y at *
  generalize x / 4294967296 = z at *
  go_enter Try.func11, Try.ntmps11
  go_wp2_with fail
  refine (HU.out _).mono ?_
  rintro e w1 ⟨rfl, rfl⟩
  go_wp2
  go_ret
  exact ⟨rfl, rfl⟩
/-- Numbers widened: of a word. -/
theorem wide_at (x re im : Nat) (W : World) (hx : x < 18446744073709551616) (h : cConvBits .f32 (x % 4294967296) (x / 4294967296) .f64 = some (re, im)) :
    Calls Try.prog 32 #[.int .u64 x] W fun e w' => e = .returned (.complex .f64 re im) ∧ W = w' := by
  have HU := Lib.hid (fun W => unpack_any x W hx)
  have hc := fun W => run_convert_complex (P := Try.prog) W 25 43 .f32 .f64 _ _ _ _ (by rw [Try.underlying25]; rfl) Try.underlying43 h
  clear h
  generalize x % 4294967296 = y at *
  generalize x / 4294967296 = z at *
  go_enter Try.func32, Try.ntmps32
  go_wp2_with fail
  refine (HU.out _).mono ?_
  rintro e w1 ⟨rfl, rfl⟩
  go_wp2
  go_ret
  exact ⟨rfl, rfl⟩
theorem narrow_at (a b re im : Nat) (W : World) (h1 : floatToFloatBits .f64 a .f32 = some re) (h2 : floatToFloatBits .f64 b .f32 = some im) (hre : re < 4294967296) (him : im < 4294967296) :
    Calls Try.prog 33 #[.float .f64 a, .float .f64 b] W fun e w' => e = .returned (.int .u64 ((partV re + 4294967296 * partV im : Nat) : Int)) ∧ W = w' := by
  have HP := Lib.hid (fun W => pack_any re im W hre him)
  generalize partV re + 4294967296 * partV im = r at *
  have c1 := fun W => run_convert_float_float (P := Try.prog) W 45 31 .f64 .f32 a re (by rw [Try.underlying45]; rfl) Try.underlying31 h1
  have c2 := fun W => run_convert_float_float (P := Try.prog) W 45 31 .f64 .f32 b im (by rw [Try.underlying45]; rfl) Try.underlying31 h2
  clear h1 h2 hre him
  go_enter Try.func33, Try.ntmps33
  go_wp2_with fail
  refine (HP.out _).mono ?_
  rintro e w1 ⟨rfl, rfl⟩
  go_wp2
  go_ret
  exact ⟨rfl, rfl⟩
theorem mul_at (x y a b c d rr ii ri ir re im : Nat) (r : Nat) (W : World)
    (HX : Hid (∀ W, Calls Try.prog 32 #[.int .u64 x] W fun e w' => e = .returned (.complex .f64 a b) ∧ W = w'))
    (HY : Hid (∀ W, Calls Try.prog 32 #[.int .u64 y] W fun e w' => e = .returned (.complex .f64 c d) ∧ W = w'))
    (h1 : floatBits .mul .f64 a c = some rr) (h2 : floatBits .mul .f64 b d = some ii) (h3 : floatBits .mul .f64 a d = some ri) (h4 : floatBits .mul .f64 b c = some ir) (h5 : floatBits .sub .f64 rr ii = some re) (h6 : floatBits .add .f64 ri ir = some im)
    (HN : Hid (∀ W, Calls Try.prog 33 #[.float .f64 re, .float .f64 im] W fun e w' => e = .returned (.int .u64 (r : Int)) ∧ W = w')) :
    Calls Try.prog 15 #[.int .u64 x, .int .u64 y] W fun e w' => e = .returned (.int .u64 (r : Int)) ∧ W = w' := by
  have c1 := fun W => run_float_arith (P := Try.prog) W .mul 45 .f64 a c rr h1
  have c2 := fun W => run_float_arith (P := Try.prog) W .mul 45 .f64 b d ii h2
  have c3 := fun W => run_float_arith (P := Try.prog) W .mul 45 .f64 a d ri h3
  have c4 := fun W => run_float_arith (P := Try.prog) W .mul 45 .f64 b c ir h4
  have c5 := fun W => run_float_arith (P := Try.prog) W .sub 45 .f64 rr ii re h5
  have c6 := fun W => run_float_arith (P := Try.prog) W .add 45 .f64 ri ir im h6
  clear h1 h2 h3 h4 h5 h6
  go_enter Try.func15, Try.ntmps15
  go_wp2_with fail
  refine (HX.out _).mono ?_
  rintro e w1 ⟨rfl, rfl⟩
  go_wp2_with fail
  refine (HY.out _).mono ?_
  rintro e w1 ⟨rfl, rfl⟩
  go_wp2_with fail
  refine (HN.out _).mono ?_
  rintro e w1 ⟨rfl, rfl⟩
  go_wp2
  go_ret
  exact ⟨rfl, rfl⟩
theorem norm_at (x a b rr ii re : Nat) (r : Nat) (W : World)
    (HX : Hid (∀ W, Calls Try.prog 32 #[.int .u64 x] W fun e w' => e = .returned (.complex .f64 a b) ∧ W = w'))
    (h1 : floatBits .mul .f64 a a = some rr) (h2 : floatBits .mul .f64 b b = some ii) (h5 : floatBits .add .f64 rr ii = some re)
    (HN : Hid (∀ W, Calls Try.prog 33 #[.float .f64 re, .float .f64 0] W fun e w' => e = .returned (.int .u64 (r : Int)) ∧ W = w')) :
    Calls Try.prog 17 #[.int .u64 x] W fun e w' => e = .returned (.int .u64 (r : Int)) ∧ W = w' := by
  have c1 := fun W => run_float_arith (P := Try.prog) W .mul 45 .f64 a a rr h1
  have c2 := fun W => run_float_arith (P := Try.prog) W .mul 45 .f64 b b ii h2
  have c5 := fun W => run_float_arith (P := Try.prog) W .add 45 .f64 rr ii re h5
  clear h1 h2 h5
  go_enter Try.func17, Try.ntmps17
  go_wp2_with fail
  refine (HX.out _).mono ?_
  rintro e w1 ⟨rfl, rfl⟩
  go_wp2_with fail
  refine (HN.out _).mono ?_
  rintro e w1 ⟨rfl, rfl⟩
  go_wp2
  go_ret
  exact ⟨rfl, rfl⟩
end Go.Proofs.Ytoggkhaecafklaa
