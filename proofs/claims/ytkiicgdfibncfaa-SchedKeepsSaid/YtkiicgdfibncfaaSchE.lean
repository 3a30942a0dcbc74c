/- Weights: their sum, the kind of a number. -/
import Derived.Test.YtkiicgdfibncfaaSchD
namespace Go.Proofs.Ytkiicgdfibncfaa
open Go.RowKit

def wV (ws : List Int) : Value := .agg (ws.map (fun x => Value.int .i64 x)).toArray
def wsum (ws : List Int) (k : Nat) : Int := (ws.take k).foldr (· + ·) 0
def okW (ws : List Int) : Prop := ∀ x ∈ ws, 0 ≤ x ∧ x ≤ 1000000
theorem foldr_append (a b : List Int) : (a ++ b).foldr (· + ·) 0 = a.foldr (· + ·) 0 + b.foldr (· + ·) 0 := by
  induction a with
  | nil => simp
  | cons x a ih => simp only [List.cons_append, List.foldr_cons, ih]; omega
def wg (ws : List Int) (k : Nat) : Int := ws.getD k 0
theorem wg_get (ws : List Int) (k : Nat) (h : k < ws.length) : ws[k]? = some (wg ws k) := by
  unfold wg
  rw [List.getD_eq_getElem?_getD, List.getElem?_eq_getElem h]
  rfl
theorem wsum_succ (ws : List Int) (k : Nat) (h : k < ws.length) : wsum ws (k + 1) = wsum ws k + wg ws k := by
  unfold wsum
  rw [List.take_add_one, wg_get ws k h, foldr_append]
  simp
theorem okW_wg {ws : List Int} (h : okW ws) (k : Nat) : 0 ≤ wg ws k ∧ wg ws k ≤ 1000000 := by
  rcases Nat.lt_or_ge k ws.length with hk | hk
  · exact h _ (List.mem_of_getElem? (wg_get ws k hk))
  · simp [wg, List.getD_eq_getElem?_getD, List.getElem?_eq_none hk]
theorem wsum_le (ws : List Int) : ∀ (k : Nat), k ≤ ws.length → (∀ j, j < k → 0 ≤ wg ws j ∧ wg ws j ≤ 1000000) → 0 ≤ wsum ws k ∧ wsum ws k ≤ 1000000 * k
  | 0, _, _ => by simp [wsum]
  | k + 1, h, hb => by
    have := wsum_le ws k (by omega) (fun j hj => hb j (by omega))
    have := hb k (by omega)
    rw [wsum_succ ws k (by omega)]
    omega
theorem sizeOf_int (W : World) : (Go.sizeOf 3).run Try.prog W = .ok 1 W := rfl
theorem isAgg_int (W : World) : (isAgg 3).run Try.prog W = .ok false W := rfl
theorem w_index (ws : List Int) (h7 : ws.length = 7) (k : Nat) (hk : k < 7) (W : World) : (Instr.index 38 (wV ws) (.int .i64 (k : Int))).run Try.prog W = .ok (.int .i64 (wg ws k)) W :=
  run_index_arr W 38 3 7 _ .i64 k _ Try.underlying38 (sizeOf_int W) (isAgg_int W) hk (by rw [List.getElem?_toArray, List.getElem?_map, wg_get ws k (by omega)]; rfl)
theorem sum_yes (ws : List Int) (h7 : ws.length = 7) (hw : okW ws) (W : World) :
    Calls Try.prog 24 #[wV ws] W fun e w' => e = .returned (.tuple #[.int .i64 (wsum ws 7), .bool (decide (0 < wsum ws 7))]) ∧ Below W.heap.size W w' := by
  have HI := Lib.hid (fun k hk => w_index ws h7 k hk)
  have HB := Lib.hid (okW_wg hw)
  have HS := Lib.hid (fun k (hk : k ≤ 7) => wsum_le ws k (by omega) (fun j _ => okW_wg hw j))
  have HN := Lib.hid (fun k (hk : k < 7) => wsum_succ ws k (by omega))
  obtain ⟨x0, x1, x2, x3, x4, x5, x6, rfl⟩ : ∃ a b c d e f g, ws = [a, b, c, d, e, f, g] := by
    match ws, h7 with
    | [a, b, c, d, e, f, g], _ => exact ⟨_, _, _, _, _, _, _, rfl⟩
  generalize hws : [x0, x1, x2, x3, x4, x5, x6] = ws at *
  have HW := Lib.hid hws
  have HV : Hid (wV ws = .agg #[.int .i64 x0, .int .i64 x1, .int .i64 x2, .int .i64 x3, .int .i64 x4, .int .i64 x5, .int .i64 x6]) := Lib.hid (by rw [← hws]; rfl)
  rw [HV.out]
  clear hws hw h7
  go_enter Try.func24, Try.ntmps24
  go_wp2_with fail
  go_loop [4, 8] (fun v i => ∃ k : Nat, k ≤ 7 ∧ i = .int .i64 k ∧ v = .int .i64 (wsum ws k)) (fun _ i => 7 - (intOf i).toNat)
  case atStart => exact ⟨0, by omega, rfl, rfl⟩
  case round =>
    obtain ⟨k, hk, rfl, rfl⟩ := hrel
    obtain ⟨s0, s1⟩ := HS.out k hk
    by_cases hkl : k < 7
    · have hx := HI.out k hkl
      rw [HV.out] at hx
      obtain ⟨b0, b1⟩ := HB.out k
      go_wp2_with fail
      go_round
      case rel => exact ⟨k + 1, hkl, by go_num, by rw [HN.out k hkl]⟩
      case measure => simp [intOf]; omega
    · obtain rfl : k = 7 := by omega
      go_wp2
      go_ret2
      refine ⟨rfl, (Below.refl _ W).alloc (Nat.le_refl _) _⟩
end Go.Proofs.Ytkiicgdfibncfaa
