/- Contracts: Leaf, Right, allows, Check, of both sides. -/
import Derived.Test.YtmnpakfihfjfiaaPteG
import Derived.Test.YtmnpakfihfjfiaaPlan
import Derived.Test.YtmnpakfihfjfiaaOpen
namespace Go.Proofs.Ytmnpakfihfjfiaa
open Go.RowKit

def rightB (v r w : Bool) : Bool := v && (r || !w)
def leafB (r x : Bool) : Bool := r || x
def allowsB (r w x d : Bool) (acc : Int) (mxr : Bool) : Bool := if acc == 0 then x else if acc == 1 then r || (mxr && x) else if acc == 2 then w && d else false
def checkB (v r w x u a d : Bool) (acc : Int) (user sum mxr : Bool) : Bool :=
  rightB v r w && leafB r x && a && !(user && !u) && !(!user && u && (acc == 0 || !sum)) && allowsB r w x d acc mxr
def pteO (v r w x u g a d : Bool) (rsw ppn : Int) : Obj := .cells #[.bool v, .bool r, .bool w, .bool x, .bool u, .bool g, .bool a, .bool d, .int .i64 rsw, .int .u64 ppn] 36

theorem perm_leaf_any (v r w x u g a d : Bool) (rsw ppn : Int) (W : World) :
    Calls Try.prog 23 #[.agg #[.bool v, .bool r, .bool w, .bool x, .bool u, .bool g, .bool a, .bool d, .int .i64 rsw, .int .u64 ppn]] W fun e w' => e = .returned (.bool (leafB r x)) ∧ W.alloc (.cells #[.bool v, .bool r, .bool w, .bool x, .bool u, .bool g, .bool a, .bool d, .int .i64 rsw, .int .u64 ppn] 36) = w' := by
  cases r
  all_goals
    go_enter Try.func23, Try.ntmps23
    go_wp2
    go_ret
    exact ⟨rfl, rfl⟩
theorem perm_right_any (v r w x u g a d : Bool) (rsw ppn : Int) (W : World) :
    Calls Try.prog 34 #[.agg #[.bool v, .bool r, .bool w, .bool x, .bool u, .bool g, .bool a, .bool d, .int .i64 rsw, .int .u64 ppn]] W fun e w' => e = .returned (.bool (rightB v r w)) ∧ W.alloc (.cells #[.bool v, .bool r, .bool w, .bool x, .bool u, .bool g, .bool a, .bool d, .int .i64 rsw, .int .u64 ppn] 36) = w' := by
  cases v <;> cases r
  all_goals
    go_enter Try.func34, Try.ntmps34
    go_wp2
    go_ret
    exact ⟨rfl, rfl⟩

theorem allows_any (v r w x u g a d : Bool) (rsw ppn acc : Int) (mxr : Bool) (W : World) :
    Calls Try.prog 35 #[.agg #[.bool v, .bool r, .bool w, .bool x, .bool u, .bool g, .bool a, .bool d, .int .i64 rsw, .int .u64 ppn], .int .i64 acc, .bool mxr] W fun e w' => e = .returned (.bool (allowsB r w x d acc mxr)) ∧ W.alloc (.cells #[.bool v, .bool r, .bool w, .bool x, .bool u, .bool g, .bool a, .bool d, .int .i64 rsw, .int .u64 ppn] 36) = w' := by
  by_cases h0 : acc = 0
  · subst h0
    go_enter Try.func35, Try.ntmps35
    go_wp2
    go_ret
    exact ⟨rfl, rfl⟩
  · by_cases h1 : acc = 1
    · subst h1
      cases r <;> cases mxr
      all_goals
        go_enter Try.func35, Try.ntmps35
        go_wp2
        go_ret
        exact ⟨rfl, rfl⟩
    · by_cases h2 : acc = 2
      · subst h2
        cases w
        all_goals
          go_enter Try.func35, Try.ntmps35
          go_wp2
          go_ret
          exact ⟨rfl, rfl⟩
      · have e0 : (acc == 0) = false := by rw [beq_eq_false_iff_ne]; exact h0
        have e1 : (acc == 1) = false := by rw [beq_eq_false_iff_ne]; exact h1
        have e2 : (acc == 2) = false := by rw [beq_eq_false_iff_ne]; exact h2
        clear h0 h1 h2
        go_enter Try.func35, Try.ntmps35
        go_wp2
        go_ret
        exact ⟨by simp [allowsB, e0, e1, e2], rfl⟩
end Go.Proofs.Ytmnpakfihfjfiaa
