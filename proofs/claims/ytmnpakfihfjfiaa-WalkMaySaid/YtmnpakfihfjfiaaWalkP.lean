/- WalkPages, the plain law: addresses of one page. -/
import Derived.Test.YtmnpakfihfjfiaaWalkM
namespace Go.Proofs.Ytmnpakfihfjfiaa
open Go.RowKit

def spN (l : Nat) : Nat := 4096 * 2 ^ (9 * l)
/-- Another address of the same page. -/
def besV (va o l : Nat) : Nat := va - va % spN l + o % spN l
theorem bes_lt {va o l : Nat} (hl : l ≤ 2) (hv : va < 18446744073709551616) : besV va o l < 18446744073709551616 := by
  unfold besV spN
  rcases (show l = 0 ∨ l = 1 ∨ l = 2 by omega) with rfl | rfl | rfl <;> simp <;> omega
theorem bes_index {va o l : Nat} (hl : l ≤ 2) (k : Nat) (hk : l ≤ k) : indexV va (k : Int) = indexV (besV va o l) (k : Int) := by
  unfold indexV
  by_cases h : levelB (k : Int) = true
  · rw [if_pos h, if_pos h]
    have h3 : k = 0 ∨ k = 1 ∨ k = 2 := by rcases level_cases h with h | h | h <;> omega
    unfold fieldV shV besV spN
    rcases (show l = 0 ∨ l = 1 ∨ l = 2 by omega) with rfl | rfl | rfl <;> rcases h3 with rfl | rfl | rfl <;> simp at hk ⊢ <;> omega
  · rw [if_neg h, if_neg h]
theorem bes_canon {va o l : Nat} (hl : l ≤ 2) : canonB (besV va o l) = canonB va := by
  have : fieldV (besV va o l) 38 26 = fieldV va 38 26 := by
    unfold fieldV besV spN
    rcases (show l = 0 ∨ l = 1 ∨ l = 2 by omega) with rfl | rfl | rfl <;> simp <;> omega
  unfold canonB
  rw [this]
theorem span_sp {l : Nat} (hl : l ≤ 2) : spanV (l : Int) = spN l := by
  rcases (show l = 0 ∨ l = 1 ∨ l = 2 by omega) with rfl | rfl | rfl <;> rfl
theorem bes_join {p va o l : Nat} (hl : l ≤ 2) (hv : va < 18446744073709551616) (hp : p < 17592186044416) :
    ((joinV p (besV va o l) (l : Int) : Nat) : Int) - (joinV p va (l : Int) : Nat) = (besV va o l : Nat) - (va : Nat) := by
  unfold joinV
  have h : levelB (l : Int) = true := by
    rcases (show l = 0 ∨ l = 1 ∨ l = 2 by omega) with rfl | rfl | rfl <;> rfl
  rw [if_pos h, if_pos h, span_sp hl]
  unfold besV spN
  rcases (show l = 0 ∨ l = 1 ∨ l = 2 by omega) with rfl | rfl | rfl <;> simp <;> omega
end Go.Proofs.Ytmnpakfihfjfiaa
