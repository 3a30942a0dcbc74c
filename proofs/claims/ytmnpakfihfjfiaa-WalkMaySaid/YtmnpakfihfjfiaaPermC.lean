/- Contract: the reference's Check. -/
import Derived.Test.YtmnpakfihfjfiaaPermB
namespace Go.Proofs.Ytmnpakfihfjfiaa
open Go.RowKit

/-- The reference's answer, as it is spelled there. -/
def rcheckB (v r w x u a d : Bool) (acc : Int) (user sum mxr : Bool) : Bool :=
  if !v || (w && !r) || (!r && !x) || !a then false
  else if (user != u) && (user || acc == 0 || !sum) then false
  else if acc == 0 then x else if acc == 1 then r || mxr else acc == 2 && w && d

theorem rcheckB_eq (v r w x u a d : Bool) (acc : Int) (user sum mxr : Bool) : rcheckB v r w x u a d acc user sum mxr = checkB v r w x u a d acc user sum mxr := by
  unfold rcheckB checkB rightB leafB allowsB
  generalize (acc == 0) = e0
  generalize (acc == 1) = e1
  generalize (acc == 2) = e2
  cases v <;> cases r <;> cases w <;> cases x <;> cases a <;> cases u <;> cases user <;> simp <;> (cases sum <;> cases mxr <;> cases e0 <;> cases e1 <;> cases e2 <;> simp)

set_option maxHeartbeats 16000000 in
theorem perm_rcheck_any (v r w x u g a d : Bool) (rsw ppn acc : Int) (user sum mxr : Bool) (W : World) :
    Calls Try.prog 19 #[.agg #[.bool v, .bool r, .bool w, .bool x, .bool u, .bool g, .bool a, .bool d, .int .i64 rsw, .int .u64 ppn], .int .i64 acc, .agg #[.bool user, .bool sum, .bool mxr]] W fun e w' => e = .returned (.bool (checkB v r w x u a d acc user sum mxr)) ∧ Below W.heap.size W w' := by
  rw [← rcheckB_eq]
  have key : ∀ E0 E1 E2 : Bool, (acc == 0) = E0 → (acc == 1) = E1 → (acc == 2) = E2 →
      Calls Try.prog 19 #[.agg #[.bool v, .bool r, .bool w, .bool x, .bool u, .bool g, .bool a, .bool d, .int .i64 rsw, .int .u64 ppn], .int .i64 acc, .agg #[.bool user, .bool sum, .bool mxr]] W fun e w' => e = .returned (.bool (rcheckB v r w x u a d acc user sum mxr)) ∧ Below W.heap.size W w' := by
    intro E0 E1 E2 h0 h1 h2
    cases v
    · go_enter Try.func19, Try.ntmps19; go_wp2; all_goals (go_ret; exact ⟨by simp [rcheckB, *], by go_grown⟩)
    cases r
    · cases w
      · cases x
        · go_enter Try.func19, Try.ntmps19; go_wp2; all_goals (go_ret; exact ⟨by simp [rcheckB, *], by go_grown⟩)
        · cases a
          · go_enter Try.func19, Try.ntmps19; go_wp2; all_goals (go_ret; exact ⟨by simp [rcheckB, *], by go_grown⟩)
          · cases user
            · cases u
              · cases E0
                · cases E1
                  · cases E2
                    · go_enter Try.func19, Try.ntmps19; go_wp2; all_goals (go_ret; exact ⟨by simp [rcheckB, *], by go_grown⟩)
                    · go_enter Try.func19, Try.ntmps19; go_wp2; all_goals (go_ret; exact ⟨by simp [rcheckB, *], by go_grown⟩)
                  · go_enter Try.func19, Try.ntmps19; go_wp2; all_goals (go_ret; exact ⟨by simp [rcheckB, *], by go_grown⟩)
                · go_enter Try.func19, Try.ntmps19; go_wp2; all_goals (go_ret; exact ⟨by simp [rcheckB, *], by go_grown⟩)
              · cases E0
                · cases sum
                  · go_enter Try.func19, Try.ntmps19; go_wp2; all_goals (go_ret; exact ⟨by simp [rcheckB, *], by go_grown⟩)
                  · cases E1
                    · cases E2
                      · go_enter Try.func19, Try.ntmps19; go_wp2; all_goals (go_ret; exact ⟨by simp [rcheckB, *], by go_grown⟩)
                      · go_enter Try.func19, Try.ntmps19; go_wp2; all_goals (go_ret; exact ⟨by simp [rcheckB, *], by go_grown⟩)
                    · go_enter Try.func19, Try.ntmps19; go_wp2; all_goals (go_ret; exact ⟨by simp [rcheckB, *], by go_grown⟩)
                · go_enter Try.func19, Try.ntmps19; go_wp2; all_goals (go_ret; exact ⟨by simp [rcheckB, *], by go_grown⟩)
            · cases u
              · go_enter Try.func19, Try.ntmps19; go_wp2; all_goals (go_ret; exact ⟨by simp [rcheckB, *], by go_grown⟩)
              · cases E0
                · cases E1
                  · cases E2
                    · go_enter Try.func19, Try.ntmps19; go_wp2; all_goals (go_ret; exact ⟨by simp [rcheckB, *], by go_grown⟩)
                    · go_enter Try.func19, Try.ntmps19; go_wp2; all_goals (go_ret; exact ⟨by simp [rcheckB, *], by go_grown⟩)
                  · go_enter Try.func19, Try.ntmps19; go_wp2; all_goals (go_ret; exact ⟨by simp [rcheckB, *], by go_grown⟩)
                · go_enter Try.func19, Try.ntmps19; go_wp2; all_goals (go_ret; exact ⟨by simp [rcheckB, *], by go_grown⟩)
      · go_enter Try.func19, Try.ntmps19; go_wp2; all_goals (go_ret; exact ⟨by simp [rcheckB, *], by go_grown⟩)
    · cases a
      · go_enter Try.func19, Try.ntmps19; go_wp2; all_goals (go_ret; exact ⟨by simp [rcheckB, *], by go_grown⟩)
      · cases user
        · cases u
          · cases E0
            · cases E1
              · cases E2
                · go_enter Try.func19, Try.ntmps19; go_wp2; all_goals (go_ret; exact ⟨by simp [rcheckB, *], by go_grown⟩)
                · cases w
                  · go_enter Try.func19, Try.ntmps19; go_wp2; all_goals (go_ret; exact ⟨by simp [rcheckB, *], by go_grown⟩)
                  · go_enter Try.func19, Try.ntmps19; go_wp2; all_goals (go_ret; exact ⟨by simp [rcheckB, *], by go_grown⟩)
              · go_enter Try.func19, Try.ntmps19; go_wp2; all_goals (go_ret; exact ⟨by simp [rcheckB, *], by go_grown⟩)
            · go_enter Try.func19, Try.ntmps19; go_wp2; all_goals (go_ret; exact ⟨by simp [rcheckB, *], by go_grown⟩)
          · cases E0
            · cases sum
              · go_enter Try.func19, Try.ntmps19; go_wp2; all_goals (go_ret; exact ⟨by simp [rcheckB, *], by go_grown⟩)
              · cases E1
                · cases E2
                  · go_enter Try.func19, Try.ntmps19; go_wp2; all_goals (go_ret; exact ⟨by simp [rcheckB, *], by go_grown⟩)
                  · cases w
                    · go_enter Try.func19, Try.ntmps19; go_wp2; all_goals (go_ret; exact ⟨by simp [rcheckB, *], by go_grown⟩)
                    · go_enter Try.func19, Try.ntmps19; go_wp2; all_goals (go_ret; exact ⟨by simp [rcheckB, *], by go_grown⟩)
                · go_enter Try.func19, Try.ntmps19; go_wp2; all_goals (go_ret; exact ⟨by simp [rcheckB, *], by go_grown⟩)
            · go_enter Try.func19, Try.ntmps19; go_wp2; all_goals (go_ret; exact ⟨by simp [rcheckB, *], by go_grown⟩)
        · cases u
          · go_enter Try.func19, Try.ntmps19; go_wp2; all_goals (go_ret; exact ⟨by simp [rcheckB, *], by go_grown⟩)
          · cases E0
            · cases E1
              · cases E2
                · go_enter Try.func19, Try.ntmps19; go_wp2; all_goals (go_ret; exact ⟨by simp [rcheckB, *], by go_grown⟩)
                · cases w
                  · go_enter Try.func19, Try.ntmps19; go_wp2; all_goals (go_ret; exact ⟨by simp [rcheckB, *], by go_grown⟩)
                  · go_enter Try.func19, Try.ntmps19; go_wp2; all_goals (go_ret; exact ⟨by simp [rcheckB, *], by go_grown⟩)
              · go_enter Try.func19, Try.ntmps19; go_wp2; all_goals (go_ret; exact ⟨by simp [rcheckB, *], by go_grown⟩)
            · go_enter Try.func19, Try.ntmps19; go_wp2; all_goals (go_ret; exact ⟨by simp [rcheckB, *], by go_grown⟩)
  exact key _ _ _ rfl rfl rfl
end Go.Proofs.Ytmnpakfihfjfiaa
