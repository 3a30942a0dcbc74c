/- Contracts of the package word: Size, there. -/
import Derived.Test.YtkkgigdgbiklmaaDoorRows
import Derived.WalkKit
import Derived.WalkSpells
import Derived.WalkLawsBesides
import Derived.Handy
import Derived.BigQuiet
import Derived.Lib.Hide
namespace Go.Proofs.YtkkgigdgbiklmaaDoor
open Go.RowKit

def sizeB (n : Int) : Bool := n == 1 || n == 2 || n == 4 || n == 8

theorem size_cases {n : Int} (h : sizeB n = true) : n = 1 ∨ n = 2 ∨ n = 4 ∨ n = 8 := by
  simp [sizeB] at h; omega
theorem size_not {n : Int} (h : sizeB n = false) : n ≠ 1 ∧ n ≠ 2 ∧ n ≠ 4 ∧ n ≠ 8 := by
  simp [sizeB] at h; omega

theorem size_any (n : Int) (w : World) :
    Calls Tryd.prog 35 #[.int .i64 n] w fun e w' => e = .returned (.bool (sizeB n)) ∧ w = w' := by
  unfold sizeB
  go_enter Tryd.func35, Tryd.ntmps35
  go_wp2
  all_goals (go_ret; refine ⟨?_, rfl⟩; first | rfl | (simp [*]; done) | (simp [*]; omega))

def thereB (n a s : Int) : Bool := sizeB s && (decide (0 ≤ a) && (decide (a ≤ n) && decide (s ≤ n - a)))

theorem there_any (A : Option Addr) (n c : Nat) (a s : Int) (w : World) (hn : n ≤ 9223372036854775807) :
    Calls Tryd.prog 34 #[.slice A n c, .int .i64 a, .int .i64 s] w fun e w' => e = .returned (.bool (thereB n a s)) ∧ w = w' := by
  unfold thereB
  rcases Bool.eq_false_or_eq_true (sizeB s) with h1 | h1
  all_goals
    have H := Lib.hid h1
    clear h1
    go_enter Tryd.func34, Tryd.ntmps34
    go_wp2_with (go_at_call 35; refine (size_any _ _).mono ?_; rintro e w' ⟨rfl, rfl⟩; rw [H.out])
    all_goals (go_ret; refine ⟨?_, rfl⟩; simp only [H.out]; first | rfl | (simp [*]; done) | (simp [*]; omega))
end Go.Proofs.YtkkgigdgbiklmaaDoor
