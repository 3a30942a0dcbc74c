/- Sources of numbers. -/
import Derived.Test.YtkiicgdfibncfaaSep
import Derived.Test.YtkiicgdfibncfaaReads
import Derived.IntWalk
namespace Go.Proofs.Ytkiicgdfibncfaa
open Go.RowKit

def DownRel (x : Int) (n : Nat) (v i : Value) : Prop := ∃ k : Nat, k ≤ n ∧ i = .int .i64 k ∧ v = .int .u64 (x / 2 ^ k)
theorem u64_id (x : Int) (h0 : 0 ≤ x) (h1 : x < 18446744073709551616) : IntKind.u64.wrap x = x := by rw [IntKind.wrap_u64]; omega
theorem u64_rng (x : Int) : 0 ≤ IntKind.u64.wrap x ∧ IntKind.u64.wrap x < 18446744073709551616 := by rw [IntKind.wrap_u64]; omega
theorem half_pow (x : Int) (k : Nat) (h0 : 0 ≤ x) (h1 : x < 18446744073709551616) : IntKind.u64.wrap ((x / 2 ^ k).tdiv 2) = x / 2 ^ (k + 1) := by
  have p0 : (0 : Int) < 2 ^ k := Int.pow_pos (by decide)
  have a0 : 0 ≤ x / 2 ^ k := Int.ediv_nonneg h0 (by omega)
  have a1 : x / 2 ^ k ≤ x := Int.ediv_le_self _ h0
  rw [Int.tdiv_eq_ediv_of_nonneg a0, u64_id _ (by omega) (by omega), Int.pow_succ, ← Int.ediv_ediv_of_nonneg (by omega)]
theorem down_any (x : Int) (n : Nat) (W : World) (h0 : 0 ≤ x) (h1 : x < 18446744073709551616) (hn : n ≤ 31) :
    Calls Try.prog 23 #[.int .u64 x, .int .i64 n] W fun e w' => e = .returned (.int .u64 (x / 2 ^ n)) ∧ W = w' := by
  go_enter Try.func23, Try.ntmps23
  go_wp2_with fail
  go_loop [0, 5] (fun v i => DownRel x n v i) (fun _ i => n - (intOf i).toNat)
  case atStart => exact ⟨0, by omega, rfl, by simp⟩
  case round =>
    obtain ⟨k, hk, rfl, rfl⟩ := hrel
    by_cases hkl : k < n
    · go_wp2_with fail
      go_round
      case rel => exact ⟨k + 1, hkl, by go_num, by rw [half_pow x k h0 h1]⟩
      case measure => simp [intOf]; omega
    · obtain rfl : k = n := by omega
      go_wp2
      go_ret
      exact ⟨rfl, rfl⟩
def nxS (s : Int) : Int := IntKind.u64.wrap (s + 11400714819323198485)
def mix1 (z : Int) : Int := IntKind.u64.wrap (bits .xor .u64 z (z / 1073741824) * 13787848793156543929)
def mix2 (z : Int) : Int := IntKind.u64.wrap (bits .xor .u64 z (z / 134217728) * 10723151780598845931)
def mix3 (z : Int) : Int := bits .xor .u64 z (z / 2147483648)
def outS (s : Int) : Int := mix3 (mix2 (mix1 (nxS s)))
theorem nxS_rng (s : Int) : 0 ≤ nxS s ∧ nxS s < 18446744073709551616 := u64_rng _
theorem outS_rng (s : Int) : 0 ≤ outS s ∧ outS s < 18446744073709551616 := by
  have : ∀ a b, 0 ≤ bits .xor .u64 a b ∧ bits .xor .u64 a b < 18446744073709551616 := fun a b => by
    show 0 ≤ IntKind.u64.wrap ((BitVec.ofInt 64 a ^^^ BitVec.ofInt 64 b).toNat : Int) ∧ IntKind.u64.wrap ((BitVec.ofInt 64 a ^^^ BitVec.ofInt 64 b).toNat : Int) < _
    exact u64_rng _
  exact this _ _
def One (b : Nat) : Nat → Prop := fun g => g = b

theorem next_nil (W : World) : Calls Try.prog 12 #[.pointer none] W fun e w' => e = .returned (.int .u64 0) ∧ W = w' := by
  go_enter Try.func12, Try.ntmps12
  go_wp2
  go_ret
  exact ⟨rfl, rfl⟩
theorem next_any (b : Nat) (s : Int) (W : World) (h : Blk W b 51 #[.int .u64 s]) :
    Calls Try.prog 12 #[.pointer (some ⟨b, 0, none⟩)] W fun e w' => e = .returned (.int .u64 (outS s)) ∧ Blk w' b 51 #[.int .u64 (nxS s)] ∧ Keeps (One b) W w' := by
  have c0 : W.cell? ⟨b, 0, none⟩ = some (.int .u64 s) := h.cell 0
  have hl := h.lt
  have hf : W.frozen? ⟨b, 0, none⟩ = false := h.frozen 0
  have hs := h.set_ 0 (.int .u64 (nxS s))
  have H := Lib.hid hs
  clear h hs
  go_enter Try.func12, Try.ntmps12
  go_wp2
  go_ret
  exact ⟨rfl, H.out, (Keeps.refl (One b) W).setCell (p := ⟨b, 0, none⟩) (.inl rfl) _⟩
theorem rnext_any (b : Nat) (s : Int) (W : World) (h : Blk W b 29 #[.int .u64 s]) :
    Calls Try.prog 13 #[.pointer (some ⟨b, 0, none⟩)] W fun e w' => e = .returned (.int .u64 (outS s)) ∧ Blk w' b 29 #[.int .u64 (nxS s)] ∧ Keeps (One b) W w' := by
  have c0 : W.cell? ⟨b, 0, none⟩ = some (.int .u64 s) := h.cell 0
  have hl := h.lt
  have hf : W.frozen? ⟨b, 0, none⟩ = false := h.frozen 0
  have hs := h.set_ 0 (.int .u64 (nxS s))
  have H := Lib.hid hs
  have HN := Lib.hid (nxS_rng s)
  clear h hs
  go_enter Try.func13, Try.ntmps13
  go_wp2_with fail
  rw [show IntKind.u64.wrap (s + 11400714819323198485) = nxS s from rfl]
  generalize hz : nxS s = z at *
  refine (down_any z 30 _ HN.out.1 HN.out.2 (by decide)).mono ?_
  rintro e w1 ⟨rfl, rfl⟩
  go_wp2_with fail
  obtain ⟨y, hy⟩ : ∃ y, y = mix1 z := ⟨_, rfl⟩
  rw [show IntKind.u64.wrap (bits .xor .u64 z (z / 1073741824) * 13787848793156543929) = y from hy.symm]
  have HYE := Lib.hid hy
  clear hy
  have HY : Hid (0 ≤ y ∧ y < 18446744073709551616) := Lib.hid (by rw [HYE.out]; exact u64_rng _)
  refine (down_any y 27 _ HY.out.1 HY.out.2 (by decide)).mono ?_
  rintro e w1 ⟨rfl, rfl⟩
  go_wp2_with fail
  obtain ⟨x, hx⟩ : ∃ x, x = mix2 y := ⟨_, rfl⟩
  rw [show IntKind.u64.wrap (bits .xor .u64 y (y / 134217728) * 10723151780598845931) = x from hx.symm]
  have HXE := Lib.hid hx
  clear hx
  have HX : Hid (0 ≤ x ∧ x < 18446744073709551616) := Lib.hid (by rw [HXE.out]; exact u64_rng _)
  refine (down_any x 31 _ HX.out.1 HX.out.2 (by decide)).mono ?_
  rintro e w1 ⟨rfl, rfl⟩
  go_wp2
  go_ret
  refine ⟨?_, by rw [hz]; exact H.out, (Keeps.refl (One b) W).setCell (p := ⟨b, 0, none⟩) (.inl rfl) _⟩
  unfold outS
  rw [hz, ← HYE.out, ← HXE.out]
  rfl
theorem new_any (s : Int) (W : World) : Calls Try.prog 9 #[.int .u64 s] W fun e w' => e = .returned (.pointer (some ⟨W.heap.size, 0, none⟩)) ∧ W.alloc (.cells #[.int .u64 s] 51) = w' := by
  go_enter Try.func9, Try.ntmps9
  go_wp2
  go_ret
  exact ⟨rfl, rfl⟩
/-- A number below n. -/
def intS (s n : Int) : Int := if n < 1 then 0 else outS s % n
def stS (s n : Int) : Int := if n < 1 then s else nxS s
theorem intS_eq (s n : Int) (h : ¬ n < 1) (hn : n < 9223372036854775808) : wrap64 ((outS s).tmod (IntKind.u64.wrap n)) = outS s % n ∧ 0 ≤ outS s % n ∧ outS s % n < n := by
  have h0 := outS_rng s
  have h1 := Int.emod_nonneg (outS s) (show n ≠ 0 by omega)
  have h2 := Int.emod_lt_of_pos (outS s) (show 0 < n by omega)
  rw [u64_id n (by omega) (by omega), Int.tmod_eq_emod_of_nonneg h0.1, wrap64]
  exact ⟨by omega, h1, h2⟩
theorem int_nil (W : World) : Calls Try.prog 10 #[.pointer none, .int .i64 9] W fun e w' => e = .returned (.int .i64 0) ∧ W = w' := by
  go_enter Try.func10, Try.ntmps10
  go_wp2_with fail
  refine (next_nil _).mono ?_
  rintro e w1 ⟨rfl, rfl⟩
  go_wp2
  go_ret
  exact ⟨rfl, rfl⟩
theorem int_any (b : Nat) (s n : Int) (W : World) (h : Blk W b 51 #[.int .u64 s]) (hn : n < 9223372036854775808) :
    Calls Try.prog 10 #[.pointer (some ⟨b, 0, none⟩), .int .i64 n] W fun e w' => e = .returned (.int .i64 (intS s n)) ∧ Blk w' b 51 #[.int .u64 (stS s n)] ∧ Keeps (One b) W w' := by
  by_cases h1 : n < 1
  · go_enter Try.func10, Try.ntmps10
    go_wp2
    go_ret
    exact ⟨by unfold intS; rw [if_pos h1]; rfl, by unfold stS; rw [if_pos h1]; exact h, Keeps.refl _ _⟩
  · have HE := Lib.hid (intS_eq s n h1 hn)
    have HB := Lib.hid h
    have hp : (0 : Int) < n := by omega
    have hp1 : (1 : Int) ≤ n := by omega
    have H1 : Hid (intS s n = outS s % n ∧ stS s n = nxS s) := Lib.hid ⟨by unfold intS; rw [if_neg h1], by unfold stS; rw [if_neg h1]⟩
    have hn0 : IntKind.u64.wrap n ≠ 0 := by rw [u64_id n (by omega) (by omega)]; omega
    clear h hn h1
    go_enter Try.func10, Try.ntmps10
    go_wp2_with fail
    refine (next_any b s _ HB.out).mono ?_
    rintro e w1 ⟨rfl, hb, hk⟩
    have HB1 := Lib.hid hb
    have HK := Lib.hid hk
    clear hb hk
    go_wp2
    go_ret
    refine ⟨?_, ?_, HK.out⟩
    · rw [H1.out.1, ← HE.out.1]; rfl
    · rw [H1.out.2]; exact HB1.out
theorem rint_any (b : Nat) (s n : Int) (W : World) (h : Blk W b 29 #[.int .u64 s]) (hn : n < 9223372036854775808) :
    Calls Try.prog 11 #[.pointer (some ⟨b, 0, none⟩), .int .i64 n] W fun e w' => e = .returned (.int .i64 (intS s n)) ∧ Blk w' b 29 #[.int .u64 (stS s n)] ∧ Keeps (One b) W w' := by
  by_cases h1 : n < 1
  · have h2 : n ≤ 0 := by omega
    go_enter Try.func11, Try.ntmps11
    go_wp2
    go_ret
    exact ⟨by unfold intS; rw [if_pos h1]; rfl, by unfold stS; rw [if_pos h1]; exact h, Keeps.refl _ _⟩
  · have HE := Lib.hid (intS_eq s n h1 hn)
    have HB := Lib.hid h
    have hp : (0 : Int) < n := by omega
    have hp1 : (1 : Int) ≤ n := by omega
    have hp2 : ¬ n ≤ 0 := by omega
    have H1 : Hid (intS s n = outS s % n ∧ stS s n = nxS s) := Lib.hid ⟨by unfold intS; rw [if_neg h1], by unfold stS; rw [if_neg h1]⟩
    have hn0 : IntKind.u64.wrap n ≠ 0 := by rw [u64_id n (by omega) (by omega)]; omega
    clear h hn h1
    go_enter Try.func11, Try.ntmps11
    go_wp2_with fail
    refine (rnext_any b s _ HB.out).mono ?_
    rintro e w1 ⟨rfl, hb, hk⟩
    have HB1 := Lib.hid hb
    have HK := Lib.hid hk
    clear hb hk
    go_wp2
    go_ret
    refine ⟨?_, ?_, HK.out⟩
    · rw [H1.out.1, ← HE.out.1]; rfl
    · rw [H1.out.2]; exact HB1.out
end Go.Proofs.Ytkiicgdfibncfaa
