/- Contract of word.Get. -/
import Derived.Test.YtnnajaomajgoeaaWordP
namespace Go.Proofs.Ytnnajaomajgoeaa
open Go.RowKit

/-- A slice reads as bytes. -/
def Bts (w : World) (A : Option Addr) (l : List Nat) : Prop :=
  (∀ i, l.getD i 0 < 256) ∧ (0 < l.length → ∃ b o, A = some ⟨b, o, none⟩ ∧ ∀ i, i < l.length → w.cell? ⟨b, o + i, none⟩ = some (.int .u8 ((l.getD i 0 : Nat) : Int)))

def getV (l : List Nat) (a s : Int) : Nat := leNat ((l.drop a.toNat).take s.toNat)

theorem there_of {n a s : Int} (h : thereB n a s = true) : sizeB s = true ∧ 0 ≤ a ∧ a ≤ n ∧ s ≤ n - a := by
  simp [thereB] at h; exact ⟨h.1, h.2.1, h.2.2.1, h.2.2.2⟩

theorem get_yes (A : Option Addr) (l : List Nat) (c : Nat) (a s : Int) (w : World) (hn : l.length ≤ 9223372036854775807) (hB : Bts w A l) (ht : thereB l.length a s = true) :
    Calls Try.prog 39 #[.slice A l.length c, .int .i64 a, .int .i64 s] w fun e w' => e = .returned (.tuple #[.int .u64 (getV l a s), .bool true]) ∧ w = w' := by
  have HT := Lib.hid ht
  obtain ⟨h1, h2, h3, h4⟩ := there_of ht
  clear ht
  have h5 := size_cases h1
  clear h1
  obtain ⟨p, rfl⟩ := Int.eq_ofNat_of_zero_le h2
  obtain ⟨q, rfl⟩ := Int.eq_ofNat_of_zero_le (show 0 ≤ s by omega)
  have hq : q ≤ 8 := by omega
  have hq1 : 1 ≤ q := by omega
  have hpq : p + q ≤ l.length := by omega
  clear h2 h3 h4 h5
  obtain ⟨hlt, hB2⟩ := hB
  obtain ⟨b, o, rfl, hc⟩ := hB2 (by omega)
  have HC := Lib.hid hc
  have HL := Lib.hid hlt
  clear hc hB2 hlt
  go_enter Try.func39, Try.ntmps39
  go_wp2_with (go_at_call 45; refine (there_any _ _ _ _ _ _ hn).mono ?_; rintro e w' ⟨rfl, rfl⟩; rw [HT.out])
  go_loop [8, 9] (fun v i => ∃ j : Nat, j ≤ q ∧ i = .int .i64 ((j : Int) - 1) ∧ v = .int .u64 (leNat (((l.drop p).drop j).take (q - j)) : Nat)) (fun _ i => (intOf i + 1).toNat)
  case atStart => exact ⟨q, Nat.le_refl _, rfl, by simp [leNat]⟩
  case round =>
    obtain ⟨j, hj, rfl, rfl⟩ := hrel
    by_cases h0 : 1 ≤ j
    · have hcell := HC.out (p + (j - 1)) (by omega)
      have e1 : ((j : Int) - 1) = ((j - 1 : Nat) : Int) := by omega
      go_wp2
      exact ⟨⟨j - 1, by omega, rfl, by rw [get_round l p q j HL.out hq hj h0 hpq]⟩, by simp [intOf]; omega⟩
    · obtain rfl : j = 0 := by omega
      go_wp2
      go_ret2
      exact ⟨by simp [getV], rfl⟩

theorem get_no (A : Option Addr) (n : Nat) (c : Nat) (a s : Int) (w : World) (hn : n ≤ 9223372036854775807) (ht : thereB n a s = false) :
    Calls Try.prog 39 #[.slice A n c, .int .i64 a, .int .i64 s] w fun e w' => e = .returned (.tuple #[.int .u64 0, .bool false]) ∧ w = w' := by
  have HT := Lib.hid ht
  clear ht
  go_enter Try.func39, Try.ntmps39
  go_wp2_with (go_at_call 45; refine (there_any _ _ _ _ _ _ hn).mono ?_; rintro e w' ⟨rfl, rfl⟩; rw [HT.out])
  go_ret2
  exact ⟨rfl, rfl⟩
end Go.Proofs.Ytnnajaomajgoeaa
