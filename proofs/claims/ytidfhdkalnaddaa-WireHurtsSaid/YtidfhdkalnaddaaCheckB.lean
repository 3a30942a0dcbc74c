/- Contract: the reference's Sum. -/
import Derived.Test.YtidfhdkalnaddaaCheckA
namespace Go.Proofs.Ytidfhdkalnaddaa
open Go.RowKit

theorem rsum_any (A : Option Addr) (l : List Nat) (c : Nat) (W : World) (hn : l.length ≤ 9223372036854775807) (hB : Bts W A l) :
    Calls Try.prog 24 #[.slice A l.length c] W fun e w' => e = .returned (.int .u32 ((sumV l : Nat) : Int)) ∧ W = w' := by
  go_enter Try.func24, Try.ntmps24
  have HB := Lib.hid hB
  clear hB
  go_wp2
  go_loop [3, 10] (fun s i => ∃ k : Nat, k ≤ l.length ∧ i = .int .i64 k ∧ s = .int .u32 ((stateV (l.take k) : Nat) : Int)) (fun _ i => l.length - (intOf i).toNat)
  case atStart => exact ⟨0, by omega, rfl, rfl⟩
  case round =>
    obtain ⟨k, hk, rfl, rfl⟩ := hrel
    by_cases hlt : k < l.length
    · obtain ⟨b, o, rfl, hc0⟩ := HB.out.2 (by omega)
      have hc := hc0 k hlt
      clear hc0
      have hx := HB.out.1 k
      have HT := Lib.hid (take_state l k hlt)
      have hS := take_lt l k HB.out.1
      generalize l.getD k 0 = x at hc hx HT
      generalize stateV (l.take k) = st at hS HT ⊢
      go_wp2
      go_loop [3, 5, 6] (fun s c i => ∃ j : Nat, j ≤ 8 ∧ i = .int .i64 j ∧ c = .int .u8 ((x / 2 ^ j : Nat) : Int) ∧ s = .int .u32 ((rN st x j : Nat) : Int)) (fun _ _ i => 8 - (intOf i).toNat)
      case atStart => exact ⟨0, by omega, rfl, by simp, rfl⟩
      case round =>
        obtain ⟨j, hj, rfl, rfl, rfl⟩ := hrel
        by_cases hj8 : j < 8
        · have hs := rN_lt x hS j
          have hy : x / 2 ^ j < 256 := Nat.lt_of_le_of_lt (Nat.div_le_self _ _) hx
          have HN : Hid (rN st x (j + 1) = rstep (rN st x j) (x / 2 ^ j)) := Lib.hid rfl
          have HY : Hid (x / 2 ^ (j + 1) = x / 2 ^ j / 2) := Lib.hid (by rw [Nat.pow_succ, ← Nat.div_div_eq_div_mul])
          generalize rN st x j = q at hs HN ⊢
          generalize x / 2 ^ j = y at hy HN HY ⊢
          by_cases hpar : (q + y) % 2 = 1
          · have e1 : (((q : Int) + (y : Int)) % 2 == 1) = true := by rw [beq_iff_eq]; omega
            have HE : Hid (rstep q y = q / 2 ^^^ 3988292384) := Lib.hid (if_pos hpar)
            have HX := Lib.hid (u32_xor (q / 2) 3988292384 (by omega) (by decide))
            clear hpar
            go_wp2
            go_round
            case rel => exact ⟨j + 1, by omega, by go_num, by rw [HY.out]; rfl, by rw [HN.out, HE.out, ← HX.out]; rfl⟩
            case measure => simp [intOf]; omega
          · have e1 : (((q : Int) + (y : Int)) % 2 == 1) = false := by rw [beq_eq_false_iff_ne]; omega
            have HE : Hid (rstep q y = q / 2) := Lib.hid (if_neg hpar)
            clear hpar
            go_wp2
            go_round
            case rel => exact ⟨j + 1, by omega, by go_num, by rw [HY.out]; rfl, by rw [HN.out, HE.out]; rfl⟩
            case measure => simp [intOf]; omega
        · obtain rfl : j = 8 := by omega
          have HR := Lib.hid (rN_byte st x hx)
          go_wp2
          go_round
          case rel => exact ⟨k + 1, by omega, by go_num, by rw [HT.out, HR.out]⟩
          case measure => simp [intOf]; omega
    · obtain rfl : k = l.length := by omega
      have hS := take_lt l l.length HB.out.1
      rw [List.take_of_length_le (Nat.le_refl _)] at hS ⊢
      go_wp2
      go_ret
      refine ⟨?_, rfl⟩
      unfold sumV
      rw [show ((4294967295 - stateV l : Nat) : Int) = 4294967295 - (stateV l : Int) by omega]
      rfl
end Go.Proofs.Ytidfhdkalnaddaa
