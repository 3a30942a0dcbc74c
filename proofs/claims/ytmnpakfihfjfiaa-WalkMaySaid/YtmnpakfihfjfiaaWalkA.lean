/- even, leads. -/
import Derived.Test.YtmnpakfihfjfiaaPteD
import Derived.Test.YtmnpakfihfjfiaaWordE
namespace Go.Proofs.Ytmnpakfihfjfiaa
open Go.RowKit

def evenB (ppn : Nat) (l : Nat) : Bool := ppn % 2 ^ (9 * l) == 0
theorem even_any (ppn l : Nat) (W : World) (hp : ppn < 18446744073709551616) (hl : l ≤ 2) :
    Calls Try.prog 24 #[.int .u64 (ppn : Int), .int .i64 (l : Int)] W fun e w' => e = .returned (.bool (evenB ppn l)) ∧ W = w' := by
  have h0 := aligned_eq ppn 0 0 (by decide) rfl hp
  have h1 := aligned_eq ppn 9 511 (by decide) rfl hp
  have h2 := aligned_eq ppn 18 262143 (by decide) rfl hp
  have H0 := Lib.hid h0
  have H1 := Lib.hid h1
  have H2 := Lib.hid h2
  clear h0 h1 h2
  rcases (show l = 0 ∨ l = 1 ∨ l = 2 by omega) with rfl | rfl | rfl
  · go_enter Try.func24, Try.ntmps24
    go_wp2_with fail
    go_ret
    exact ⟨by first | (rw [H0.out]; rfl) | (simp [evenB]), rfl⟩
  · go_enter Try.func24, Try.ntmps24
    go_wp2_with fail
    go_ret
    exact ⟨by rw [H1.out]; rfl, rfl⟩
  · go_enter Try.func24, Try.ntmps24
    go_wp2_with fail
    go_ret
    exact ⟨by rw [H2.out]; rfl, rfl⟩
theorem leads_any (v r w x u g a d : Bool) (rsw ppn : Int) (l : Nat) (W : World) (hl : l ≤ 2) :
    Calls Try.prog 25 #[.agg #[.bool v, .bool r, .bool w, .bool x, .bool u, .bool g, .bool a, .bool d, .int .i64 rsw, .int .u64 ppn], .int .i64 (l : Int)] W fun e w' => e = .returned (.bool (decide (0 < l) && !u && !a && !d)) ∧ Below W.heap.size W w' := by
  rcases (show l = 0 ∨ l = 1 ∨ l = 2 by omega) with rfl | rfl | rfl <;> cases u <;> cases a <;> cases d
  all_goals
    go_enter Try.func25, Try.ntmps25
    go_wp2_with fail
    go_ret
    exact ⟨rfl, (Below.refl _ _).alloc (Nat.le_refl _) _⟩
end Go.Proofs.Ytmnpakfihfjfiaa
