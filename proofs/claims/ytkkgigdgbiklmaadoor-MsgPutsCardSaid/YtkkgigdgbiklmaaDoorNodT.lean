/- The lowest node, by reckoning. -/
import Derived.Test.YtkkgigdgbiklmaaDoorNodA
namespace Go.Proofs.YtkkgigdgbiklmaaDoor
open Go.RowKit

def tzN (s : Nat) : Nat := ((List.range 16).find? (fun k => s.testBit k)).getD 16
def tzChk (s : Nat) : Bool := s == 0 || (s &&& (65536 - s)) == 2 ^ tzN s
theorem tz_all : ((List.range 256).all fun a => (List.range 256).all fun b => tzChk (256 * a + b)) = true := by kernel_rfl
theorem tz_pow (s : Nat) (h0 : 0 < s) (h : s < 65536) : s &&& (65536 - s) = 2 ^ tzN s := by
  have h1 := List.all_eq_true.1 tz_all (s / 256) (List.mem_range.2 (by omega))
  have h2 := List.all_eq_true.1 h1 (s % 256) (List.mem_range.2 (by omega))
  rw [show 256 * (s / 256) + s % 256 = s by omega] at h2
  unfold tzChk at h2
  simp only [Bool.or_eq_true, beq_iff_eq] at h2
  rcases h2 with h2 | h2
  · omega
  · exact h2
theorem tz_lt (s : Nat) (h0 : 0 < s) (h : s < 65536) : tzN s < 16 := by
  unfold tzN
  cases hf : (List.range 16).find? (fun k => s.testBit k) with
  | none =>
    have h1 := List.find?_eq_none.1 hf
    have : s = 0 := set_eq h (by decide) fun k hk => by
      have := h1 k (List.mem_range.2 hk)
      simp at this ⊢
      exact this
    omega
  | some k => exact List.mem_range.1 (List.mem_of_find?_eq_some hf)
def cutN (s m : Nat) : Nat := s / 2 ^ m * 2 ^ m
theorem cut_tb (s m k : Nat) : (cutN s m).testBit k = (decide (m ≤ k) && s.testBit k) := by
  unfold cutN
  rw [Nat.testBit_mul_two_pow]
  by_cases h : m ≤ k
  · simp only [h, decide_true, Bool.true_and, Nat.testBit_div_two_pow]
    rw [show k - m + m = k by omega]
  · simp [h]
theorem cut_le (s m : Nat) : cutN s m ≤ s := Nat.div_mul_le_self s (2 ^ m)
/-- The next node from a number on. -/
def nextI (s : Nat) (n : Int) : Int := match (List.range 16).find? (fun k => s.testBit k && decide (n ≤ (k : Int))) with
  | some k => k
  | none => -1
theorem next_cut (s : Nat) (n : Int) (m : Nat) (hm : (m : Int) = max n 0) : (fun k => s.testBit k && decide (n ≤ (k : Int))) = (fun k => (cutN s m).testBit k) := by
  funext k
  rw [cut_tb, Bool.eq_iff_iff]
  simp only [Bool.and_eq_true, decide_eq_true_eq]
  constructor
  · rintro ⟨h1, h2⟩; exact ⟨by omega, h1⟩
  · rintro ⟨h1, h2⟩; exact ⟨h2, by omega⟩
theorem next_zero (s : Nat) (n : Int) (m : Nat) (hm : (m : Int) = max n 0) (h : cutN s m = 0) : nextI s n = -1 := by
  unfold nextI
  rw [next_cut s n m hm, h]
  have : (List.range 16).find? (fun k => Nat.testBit 0 k) = none := List.find?_eq_none.2 fun k _ => by simp
  rw [this]
theorem next_some (s : Nat) (n : Int) (m : Nat) (hs : s < 65536) (hm : (m : Int) = max n 0) (h : 0 < cutN s m) : nextI s n = (tzN (cutN s m) : Nat) := by
  have hlt := tz_lt _ h (Nat.lt_of_le_of_lt (cut_le s m) hs)
  unfold nextI
  rw [next_cut s n m hm]
  unfold tzN at hlt ⊢
  cases hf : (List.range 16).find? (fun k => (cutN s m).testBit k) with
  | none => rw [hf] at hlt; simp at hlt
  | some k => rfl
theorem next_big (s : Nat) (n : Int) (h : 16 ≤ n) : nextI s n = -1 := by
  unfold nextI
  have : (List.range 16).find? (fun k => s.testBit k && decide (n ≤ (k : Int))) = none := List.find?_eq_none.2 fun k hk => by
    have := List.mem_range.1 hk
    have h2 : decide (n ≤ (k : Int)) = false := decide_eq_false (by omega)
    rw [h2]; simp
  rw [this]
end Go.Proofs.YtkkgigdgbiklmaaDoor
