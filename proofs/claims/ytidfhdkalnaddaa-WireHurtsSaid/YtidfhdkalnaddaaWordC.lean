/- Contracts of the reference's Size and Get. -/
import Derived.Test.YtidfhdkalnaddaaByte
namespace Go.Proofs.Ytidfhdkalnaddaa
open Go.RowKit

theorem rsize_any (n : Int) (w : World) :
    Calls Try.prog 35 #[.int .i64 n] w fun e w' => e = .returned (.bool (sizeB n)) ∧ Below w.heap.size w w' := by
  go_enter Try.func35, Try.ntmps35
  go_wp2
  go_rounds 5
  all_goals (go_ret; refine ⟨by simp [sizeB, *], by go_grown⟩)

theorem rget_no (A : Option Addr) (n : Nat) (c : Nat) (a s : Int) (w : World) (hn : n ≤ 9223372036854775807) (ht : thereB n a s = false) :
    Calls Try.prog 27 #[.slice A n c, .int .i64 a, .int .i64 s] w fun e w' => e = .returned (.tuple #[.int .u64 0, .bool false]) ∧ Below w.heap.size w w' := by
  have hh : sizeB s = false ∨ (sizeB s = true ∧ (a < 0 ∨ (n : Int) < a ∨ (n : Int) - a < s)) := by
    rcases Bool.eq_false_or_eq_true (sizeB s) with h1 | h1
    · refine .inr ⟨h1, ?_⟩; simp [thereB, h1] at ht; omega
    · exact .inl h1
  clear ht
  rcases hh with h1 | ⟨h1, h2 | h2 | h2⟩
  all_goals
    have H := Lib.hid h1
    clear h1
    go_enter Try.func27, Try.ntmps27
    go_wp2_with (go_at_call 35; refine (rsize_any _ _).mono ?_; rintro e w1 ⟨rfl, hb⟩; rw [H.out])
    all_goals (go_ret2; exact ⟨rfl, hb⟩)
theorem rget_yes (A : Option Addr) (l : List Nat) (c : Nat) (a s : Int) (w : World) (hn : l.length ≤ 9223372036854775807) (hB : Bts w A l) (ht : thereB l.length a s = true) :
    Calls Try.prog 27 #[.slice A l.length c, .int .i64 a, .int .i64 s] w fun e w' => e = .returned (.tuple #[.int .u64 (getV l a s), .bool true]) ∧ Below w.heap.size w w' := by
  obtain ⟨h1, h2, h3, h4⟩ := there_of ht
  clear ht
  have H1 := Lib.hid h1
  have h5 := size_cases h1
  clear h1
  obtain ⟨p, rfl⟩ := Int.eq_ofNat_of_zero_le h2
  obtain ⟨q, rfl⟩ := Int.eq_ofNat_of_zero_le (show 0 ≤ s by omega)
  have hq : q ≤ 8 := by omega
  have hq1 : 1 ≤ q := by omega
  have hpq : p + q ≤ l.length := by omega
  clear h2 h3 h4 h5
  have HL := Lib.hid hB.1
  have HB := Lib.hid hB
  clear hB
  go_enter Try.func27, Try.ntmps27
  go_wp2_with (go_at_call 35; refine (rsize_any _ _).mono ?_; rintro e w1 ⟨rfl, hb⟩; rw [H1.out])
  have hB2 := bts_below HB.out hb
  obtain ⟨b, o, rfl, hc⟩ := hB2.2 (by omega)
  have HC := Lib.hid hc
  clear hc hB2
  go_loop [8, 9, 10] (fun v f i => ∃ j : Nat, j ≤ q ∧ i = .int .i64 j ∧ f = .int .u64 ((256 ^ j % 18446744073709551616 : Nat)) ∧ v = .int .u64 (leNat ((l.drop p).take j) : Nat)) (fun _ _ i => (q - (intOf i)).toNat)
  case atStart => exact ⟨0, by omega, rfl, rfl, by simp [leNat]⟩
  case round =>
    obtain ⟨j, hj, rfl, rfl, rfl⟩ := hrel
    by_cases h0 : j < q
    · have hcell := HC.out (p + j) (by omega)
      go_wp2
      exact ⟨⟨j + 1, by omega, by go_num, by rw [rget_round1], by rw [rget_round2 l p q j HL.out hq h0 hpq]⟩, by simp [intOf]; omega⟩
    · obtain rfl : j = q := by omega
      go_wp2
      go_ret2
      exact ⟨by simp [getV], hb⟩
end Go.Proofs.Ytidfhdkalnaddaa
