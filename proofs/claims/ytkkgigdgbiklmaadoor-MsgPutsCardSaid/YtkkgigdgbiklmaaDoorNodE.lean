/- The reference's Of and Same. -/
import Derived.Test.YtkkgigdgbiklmaaDoorNodD
import Derived.Test.YtkkgigdgbiklmaaDoorPlanT
namespace Go.Proofs.YtkkgigdgbiklmaaDoor
open Go.RowKit

def inN (l : List Int) (m : Nat) : Nat := if l.contains (m : Int) then 1 else 0
theorem in_le (l : List Int) (m : Nat) : inN l m ≤ 1 := by unfold inN; split <;> omega
theorem of_div (l : List Int) (m : Nat) (hm : m < 16) : ofN l / 2 ^ m = 2 * (ofN l / 2 ^ (m + 1)) + inN l m := by
  have h1 : (ofN l).testBit m = l.contains (m : Int) := by rw [of_tb]; simp [hm]
  rw [tb_div] at h1
  unfold inN
  rw [← h1, Nat.pow_succ, ← Nat.div_div_eq_div_mul]
  split <;> rename_i h <;> simp at h <;> omega
theorem of_div_lt (l : List Int) (m : Nat) (hm : 1 ≤ m) : 2 * (ofN l / 2 ^ m) < 65536 := by
  obtain ⟨k, rfl⟩ : ∃ k, m = k + 1 := ⟨m - 1, by omega⟩
  have h1 := of_lt l
  have h2 : ofN l / 2 ^ (k + 1) ≤ ofN l / 2 := Nat.div_le_div_left (by rw [Nat.pow_succ]; have := Nat.pos_of_ne_zero (Nat.ne_of_gt (Nat.two_pow_pos k)); omega) (by decide)
  omega
theorem in_step {l : List Int} {k : Nat} {x : Int} (hx : l[k]? = some x) (m : Nat) : inN (l.take (k + 1)) m = if x = (m : Int) then 1 else inN (l.take k) m := by
  unfold inN
  rw [List.take_add_one, hx, show (some x).toList = [x] from rfl, List.contains_append]
  by_cases h : x = (m : Int)
  · rw [if_pos h]; simp [h]
  · rw [if_neg h]
    have : ([x].contains (m : Int)) = false := by simp; omega
    rw [this, Bool.or_false]
theorem beq_take {la lb : List Int} (k : Nat) (h : la.take k = lb.take k) (hk : la.length ≤ k) (hl : la.length = lb.length) : la = lb := by
  rw [List.take_of_length_le hk, List.take_of_length_le (by omega)] at h
  exact h
theorem take_more {la lb : List Int} {k : Nat} {x y : Int} (h : la.take k = lb.take k) (hx : la[k]? = some x) (hy : lb[k]? = some y) (e : x = y) : la.take (k + 1) = lb.take (k + 1) := by
  rw [List.take_add_one, List.take_add_one, h, hx, hy, e]
theorem take_not {la lb : List Int} {k : Nat} {x y : Int} (hx : la[k]? = some x) (hy : lb[k]? = some y) (e : ¬ x = y) : (la == lb) = false := by
  apply beq_eq_false_iff_ne.2
  rintro rfl
  rw [hx] at hy
  injection hy with hy
  exact e hy
end Go.Proofs.YtkkgigdgbiklmaaDoor
