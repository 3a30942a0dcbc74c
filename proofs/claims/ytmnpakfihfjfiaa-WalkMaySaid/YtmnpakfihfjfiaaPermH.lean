/- Contracts: causes; the laws' own first function. -/
import Derived.Test.YtmnpakfihfjfiaaPermC
namespace Go.Proofs.Ytmnpakfihfjfiaa
open Go.RowKit

def causeV (a l0 l1 l2 : Int) : Int := if a == 0 then l0 else if a == 1 then l1 else if a == 2 then l2 else -1
theorem known_any (a : Int) (b : Bool) (W : World) (h : b = decide (0 ≤ a ∧ a ≤ 2)) :
    Calls Try.prog 50 #[.int .i64 a] W fun e w' => e = .returned (.bool b) ∧ W = w' := by
  rcases (show (0 ≤ a ∧ a ≤ 2) ∨ a < 0 ∨ 2 < a by omega) with h1 | h1 | h1
  · have e : b = true := by rw [h]; simpa using h1
    subst e
    obtain ⟨h1, h2⟩ := h1
    clear h
    go_enter Try.func50, Try.ntmps50
    go_wp2
    go_ret
    exact ⟨rfl, rfl⟩
  · have e : b = false := by rw [h]; simp; omega
    subst e
    clear h
    have h2 : decide (0 ≤ a) = false := by simp; omega
    go_enter Try.func50, Try.ntmps50
    go_wp2
    go_ret
    exact ⟨rfl, rfl⟩
  · have e : b = false := by rw [h]; simp; omega
    subst e
    clear h
    have h2 : decide (a ≤ 2) = false := by simp; omega
    have h3 : 0 ≤ a := by omega
    go_enter Try.func50, Try.ntmps50
    go_wp2
    go_ret
    exact ⟨rfl, rfl⟩
theorem of_any (a l0 l1 l2 : Int) (W : World) :
    Calls Try.prog 33 #[.int .i64 a, .agg #[.int .i64 l0, .int .i64 l1, .int .i64 l2]] W fun e w' => e = .returned (.int .i64 (causeV a l0 l1 l2)) ∧ W.alloc (.cells #[.int .i64 l0, .int .i64 l1, .int .i64 l2] 84) = w' := by
  rcases (show a = 0 ∨ a = 1 ∨ a = 2 ∨ (a < 0 ∨ 2 < a) by omega) with rfl | rfl | rfl | h
  iterate 3
    go_enter Try.func33, Try.ntmps33
    go_wp2_with (go_at_call 50; refine (known_any _ true _ (by decide)).mono ?_; rintro e w' ⟨rfl, rfl⟩)
    go_ret
    exact ⟨rfl, rfl⟩
  · have e : causeV a l0 l1 l2 = -1 := by
      unfold causeV
      rw [if_neg (by simp; omega), if_neg (by simp; omega), if_neg (by simp; omega)]
    rw [e]
    clear e
    have H := Lib.hid h
    clear h
    go_enter Try.func33, Try.ntmps33
    go_wp2_with (go_at_call 50; refine (known_any _ false _ (by have h := H.out; simp; omega)).mono ?_; rintro e w' ⟨rfl, rfl⟩)
    go_ret
    exact ⟨rfl, rfl⟩
theorem page_any (a : Int) (W : World) :
    Calls Try.prog 16 #[.int .i64 a] W fun e w' => e = .returned (.int .i64 (causeV a 12 13 15)) ∧ W.alloc (.cells #[.int .i64 12, .int .i64 13, .int .i64 15] 84) = w' := by
  go_enter Try.func16, Try.ntmps16
  go_wp2_with (go_at_call 33; refine (of_any _ _ _ _ _).mono ?_; rintro e w' ⟨rfl, rfl⟩)
  go_ret
  exact ⟨rfl, rfl⟩
theorem bound_any (a : Int) (W : World) :
    Calls Try.prog 14 #[.int .i64 a] W fun e w' => e = .returned (.int .i64 (causeV a 1 5 7)) ∧ W.alloc (.cells #[.int .i64 1, .int .i64 5, .int .i64 7] 84) = w' := by
  go_enter Try.func14, Try.ntmps14
  go_wp2_with (go_at_call 33; refine (of_any _ _ _ _ _).mono ?_; rintro e w' ⟨rfl, rfl⟩)
  go_ret
  exact ⟨rfl, rfl⟩
theorem rcause_any (a l0 l1 l2 : Int) (g c : Nat) (W : World) (h0 : W.cell? ⟨g, 0, none⟩ = some (.int .i64 l0)) (h1 : W.cell? ⟨g, 1, none⟩ = some (.int .i64 l1)) (h2 : W.cell? ⟨g, 2, none⟩ = some (.int .i64 l2)) :
    Calls Try.prog 18 #[.int .i64 a, .slice (some ⟨g, 0, none⟩) 3 c] W fun e w' => e = .returned (.int .i64 (causeV a l0 l1 l2)) ∧ W = w' := by
  rcases (show a = 0 ∨ a = 1 ∨ a = 2 ∨ a < 0 ∨ 2 < a by omega) with rfl | rfl | rfl | h | h
  · go_enter Try.func18, Try.ntmps18
    go_wp2
    all_goals (go_ret; exact ⟨rfl, rfl⟩)
  · go_enter Try.func18, Try.ntmps18
    go_wp2
    all_goals (go_ret; exact ⟨rfl, rfl⟩)
  · go_enter Try.func18, Try.ntmps18
    go_wp2
    all_goals (go_ret; exact ⟨rfl, rfl⟩)
  all_goals
    have e : causeV a l0 l1 l2 = -1 := by
      unfold causeV
      rw [if_neg (by simp; omega), if_neg (by simp; omega), if_neg (by simp; omega)]
    rw [e]
    clear e
  · go_enter Try.func18, Try.ntmps18
    go_wp2
    all_goals (go_ret; exact ⟨rfl, rfl⟩)
  · have h3 : decide (a < 0) = false := by simp; omega
    go_enter Try.func18, Try.ntmps18
    go_wp2
    all_goals (go_ret; exact ⟨rfl, rfl⟩)

theorem pte_cells {w : World} {g : Nat} {t : TypeId} {c0 c1 c2 c3 c4 c5 c6 c7 c8 c9 : Value} (h : Blk w g t #[c0, c1, c2, c3, c4, c5, c6, c7, c8, c9]) :
    w.cell? ⟨g, 0, none⟩ = some c0 ∧ w.cell? ⟨g, 1, none⟩ = some c1 ∧ w.cell? ⟨g, 2, none⟩ = some c2 ∧ w.cell? ⟨g, 3, none⟩ = some c3 ∧ w.cell? ⟨g, 4, none⟩ = some c4 ∧ w.cell? ⟨g, 5, none⟩ = some c5 ∧ w.cell? ⟨g, 6, none⟩ = some c6 ∧ w.cell? ⟨g, 7, none⟩ = some c7 ∧ w.cell? ⟨g, 8, none⟩ = some c8 ∧ w.cell? ⟨g, 9, none⟩ = some c9 :=
  ⟨h.cell 0, h.cell 1, h.cell 2, h.cell 3, h.cell 4, h.cell 5, h.cell 6, h.cell 7, h.cell 8, h.cell 9⟩
theorem mode_cells {w : World} {g : Nat} {t : TypeId} {c0 c1 c2 : Value} (h : Blk w g t #[c0, c1, c2]) :
    w.cell? ⟨g, 0, none⟩ = some c0 ∧ w.cell? ⟨g, 1, none⟩ = some c1 ∧ w.cell? ⟨g, 2, none⟩ = some c2 := ⟨h.cell 0, h.cell 1, h.cell 2⟩

theorem flags_first_size : (⟨#[118, 114, 45, 120, 117, 45, 97, 45]⟩ : ByteArray).size = 8 := rfl
end Go.Proofs.Ytmnpakfihfjfiaa
