/- Contracts: Check, of both sides. -/
import Derived.Test.YtmnpakfihfjfiaaPermA
namespace Go.Proofs.Ytmnpakfihfjfiaa
open Go.RowKit

set_option maxHeartbeats 8000000 in
theorem perm_check_any (v r w x u g a d : Bool) (rsw ppn acc : Int) (user sum mxr : Bool) (W : World) :
    Calls Try.prog 15 #[.agg #[.bool v, .bool r, .bool w, .bool x, .bool u, .bool g, .bool a, .bool d, .int .i64 rsw, .int .u64 ppn], .int .i64 acc, .agg #[.bool user, .bool sum, .bool mxr]] W fun e w' => e = .returned (.bool (checkB v r w x u a d acc user sum mxr)) ∧ Below W.heap.size W w' := by
  have key : ∀ R L E A : Bool, rightB v r w = R → leafB r x = L → (acc == 0) = E → allowsB r w x d acc mxr = A →
      Calls Try.prog 15 #[.agg #[.bool v, .bool r, .bool w, .bool x, .bool u, .bool g, .bool a, .bool d, .int .i64 rsw, .int .u64 ppn], .int .i64 acc, .agg #[.bool user, .bool sum, .bool mxr]] W fun e w' => e = .returned (.bool (R && L && a && !(user && !u) && !(!user && u && (E || !sum)) && A)) ∧ Below W.heap.size W w' := by
    intro R L E A hR hL hE hA
    have HR := Lib.hid hR
    have HL := Lib.hid hL
    have HA := Lib.hid hA
    clear hR hL hA
    cases R
    · go_enter Try.func15, Try.ntmps15
      go_wp2_with (go_at_call 34; refine (perm_right_any _ _ _ _ _ _ _ _ _ _ _).mono ?_; rintro e w' ⟨rfl, rfl⟩; rw [HR.out])
      go_ret
      exact ⟨rfl, by go_grown⟩
    cases L
    · go_enter Try.func15, Try.ntmps15
      go_wp2_with (first | (go_at_call 34; refine (perm_right_any _ _ _ _ _ _ _ _ _ _ _).mono ?_; rintro e w' ⟨rfl, rfl⟩; rw [HR.out]) | (go_at_call 23; refine (perm_leaf_any _ _ _ _ _ _ _ _ _ _ _).mono ?_; rintro e w' ⟨rfl, rfl⟩; rw [HL.out]))
      go_ret
      exact ⟨rfl, by go_grown⟩
    cases a
    · go_enter Try.func15, Try.ntmps15
      go_wp2_with (first | (go_at_call 34; refine (perm_right_any _ _ _ _ _ _ _ _ _ _ _).mono ?_; rintro e w' ⟨rfl, rfl⟩; rw [HR.out]) | (go_at_call 23; refine (perm_leaf_any _ _ _ _ _ _ _ _ _ _ _).mono ?_; rintro e w' ⟨rfl, rfl⟩; rw [HL.out]))
      go_ret
      exact ⟨rfl, by go_grown⟩
    cases user <;> cases u <;> cases E <;> cases sum
    all_goals
      go_enter Try.func15, Try.ntmps15
      go_wp2_with (first | (go_at_call 34; refine (perm_right_any _ _ _ _ _ _ _ _ _ _ _).mono ?_; rintro e w' ⟨rfl, rfl⟩; rw [HR.out]) | (go_at_call 23; refine (perm_leaf_any _ _ _ _ _ _ _ _ _ _ _).mono ?_; rintro e w' ⟨rfl, rfl⟩; rw [HL.out]) | (go_at_call 35; refine (allows_any _ _ _ _ _ _ _ _ _ _ _ _ _).mono ?_; rintro e w' ⟨rfl, rfl⟩; rw [HA.out]))
      go_ret
      exact ⟨rfl, by go_grown⟩
  exact key _ _ _ _ rfl rfl rfl rfl
end Go.Proofs.Ytmnpakfihfjfiaa
