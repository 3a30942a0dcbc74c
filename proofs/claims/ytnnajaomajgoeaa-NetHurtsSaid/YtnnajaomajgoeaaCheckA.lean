/- Contracts: step, Sum. -/
import Derived.Test.YtnnajaomajgoeaaCheckP
import Derived.IntWalk
namespace Go.Proofs.Ytnnajaomajgoeaa
open Go.RowKit

theorem wraps_u32 (n : Int) (h₀ : 0 ≤ n) (h₁ : n < 2 ^ 32) : IntKind.u32.wrap n = n := by rw [IntKind.wrap_u32]; omega
theorem u32_xor (a b : Nat) (ha : a < 4294967296) (hb : b < 4294967296) : bits .xor .u32 (a : Int) (b : Int) = ((a ^^^ b : Nat) : Int) := by
  have hx : a ^^^ b < 2 ^ 32 := xor32 ha hb
  have h1 : (BitVec.ofInt 32 (a : Int)).toNat = a := by
    rw [BitVec.ofInt_natCast, BitVec.toNat_ofNat]; exact Nat.mod_eq_of_lt (by omega)
  have h2 : (BitVec.ofInt 32 (b : Int)).toNat = b := by
    rw [BitVec.ofInt_natCast, BitVec.toNat_ofNat]; exact Nat.mod_eq_of_lt (by omega)
  show IntKind.u32.wrap ((BitVec.ofInt 32 (a : Int) ^^^ BitVec.ofInt 32 (b : Int)).toNat : Int) = _
  rw [BitVec.toNat_xor, h1, h2, IntKind.wrap_u32]
  omega
theorem u32_one (s : Nat) (hs : s < 4294967296) : bits .and .u32 (s : Int) 1 = ((s % 2 : Nat) : Int) := by
  have := bits_mask .u32 32 (by decide) wraps_u32 1 (by decide) (s : Int) (by omega) (by omega)
  rw [show ((2 : Int) ^ 1 - 1) = 1 from rfl] at this
  rw [this]
  omega
theorem u32_not (s : Nat) (hs : s < 4294967296) : bits .xor .u32 IntKind.u32.max (s : Int) = ((4294967295 - s : Nat) : Int) := by
  have h := u32_xor 4294967295 s (by decide) hs
  rw [show IntKind.u32.max = ((4294967295 : Nat) : Int) from rfl, h]
  congr 1
  have e := BitVec.toNat_not (x := BitVec.ofNat 32 s)
  have e2 : (~~~ BitVec.ofNat 32 s) = BitVec.ofNat 32 s ^^^ BitVec.allOnes 32 := by rw [BitVec.xor_allOnes]
  rw [e2, BitVec.toNat_xor, BitVec.toNat_ofNat, BitVec.toNat_allOnes, Nat.mod_eq_of_lt (show s < 2 ^ 32 from hs)] at e
  rw [Nat.xor_comm, show (4294967295 : Nat) = 2 ^ 32 - 1 from rfl, e]

theorem step_any (s : Nat) (W : World) (hs : s < 4294967296) :
    Calls Try.prog 46 #[.int .u32 (s : Int)] W fun e w' => e = .returned (.int .u32 ((stepV s : Nat) : Int)) ∧ W = w' := by
  have H1 := u32_one s hs
  by_cases h : s % 2 = 1
  · have HX := Lib.hid (u32_xor (s / 2) 3988292384 (by omega) (by decide))
    have HE : Hid (stepV s = s / 2 ^^^ 3988292384) := Lib.hid (if_pos h)
    rw [h] at H1
    clear h
    go_enter Try.func46, Try.ntmps46
    go_wp2
    go_ret
    refine ⟨?_, rfl⟩
    rw [HE.out, ← HX.out]
    rfl
  · have HE : Hid (stepV s = s / 2) := Lib.hid (if_neg h)
    rw [show s % 2 = 0 by omega] at H1
    clear h
    go_enter Try.func46, Try.ntmps46
    go_wp2
    go_ret
    refine ⟨?_, rfl⟩
    rw [HE.out]
    rfl

theorem take_state (l : List Nat) (k : Nat) (hk : k < l.length) : stateV (l.take (k + 1)) = byteV (stateV (l.take k)) (l.getD k 0) := by
  rw [List.take_succ_eq_append_getElem hk, state_snoc, List.getD_eq_getElem?_getD, List.getElem?_eq_getElem hk]
  rfl
theorem take_lt (l : List Nat) (k : Nat) (h : ∀ i : Nat, l.getD i 0 < 256) : stateV (l.take k) < 4294967296 := state_lt _ (fun i => getD_take_lt l k i h)
theorem sum_any (A : Option Addr) (l : List Nat) (c : Nat) (W : World) (hn : l.length ≤ 9223372036854775807) (hB : Bts W A l) :
    Calls Try.prog 44 #[.slice A l.length c] W fun e w' => e = .returned (.int .u32 ((sumV l : Nat) : Int)) ∧ W = w' := by
  go_enter Try.func44, Try.ntmps44
  have HB := Lib.hid hB
  clear hB
  go_wp2
  go_loop [3, 8] (fun s i => ∃ k : Nat, k ≤ l.length ∧ i = .int .i64 k ∧ s = .int .u32 ((stateV (l.take k) : Nat) : Int)) (fun _ i => l.length - (intOf i).toNat)
  case atStart => exact ⟨0, by omega, rfl, rfl⟩
  case round =>
    obtain ⟨k, hk, rfl, rfl⟩ := hrel
    by_cases hlt : k < l.length
    · obtain ⟨b, o, rfl, hc0⟩ := HB.out.2 (by omega)
      have hc := hc0 k hlt
      clear hc0
      have hx := HB.out.1 k
      have HT := Lib.hid (take_state l k hlt)
      have hS := take_lt l k HB.out.1
      generalize l.getD k 0 = x at hc hx HT
      generalize stateV (l.take k) = st at hS HT ⊢
      have HX := Lib.hid (u32_xor st x hS (by omega))
      have hy := xor32 hS (show x < 4294967296 by omega)
      have HY := Lib.hid hy
      clear hy
      go_wp2
      go_loop [3, 16] (fun s i => ∃ j : Nat, j ≤ 8 ∧ i = .int .i64 j ∧ s = .int .u32 ((stepN j (st ^^^ x) : Nat) : Int)) (fun _ i => 8 - (intOf i).toNat)
      case atStart => exact ⟨0, by omega, rfl, by rw [HX.out]; rfl⟩
      case round =>
        obtain ⟨j, hj, rfl, rfl⟩ := hrel
        by_cases hj8 : j < 8
        · have hs := stepN_lt HY.out j
          have HN : Hid (stepN (j + 1) (st ^^^ x) = stepV (stepN j (st ^^^ x))) := Lib.hid rfl
          generalize stepN j (st ^^^ x) = q at hs HN ⊢
          go_wp2_with (go_at_call 46; refine (step_any _ _ hs).mono ?_; rintro e w' ⟨rfl, rfl⟩)
          go_round
          case rel => exact ⟨j + 1, by omega, by go_num, by rw [HN.out]⟩
          case measure => simp [intOf]; omega
        · obtain rfl : j = 8 := by omega
          go_wp2
          go_round
          case rel => exact ⟨k + 1, by omega, by go_num, by rw [HT.out]; rfl⟩
          case measure => simp [intOf]; omega
    · obtain rfl : k = l.length := by omega
      have hS := take_lt l l.length HB.out.1
      rw [List.take_of_length_le (Nat.le_refl _)] at hS ⊢
      have HN := Lib.hid (u32_not (stateV l) hS)
      go_wp2
      all_goals first | (exfalso; revert ‹IntKind.u32.signed = true›; decide) | skip
      go_ret
      refine ⟨?_, rfl⟩
      unfold sumV
      rw [← HN.out]
      rfl
end Go.Proofs.Ytnnajaomajgoeaa
