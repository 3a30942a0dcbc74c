/- Weights that may not be; the kind of a number. -/
import Derived.Test.YtkiicgdfibncfaaSchE
namespace Go.Proofs.Ytkiicgdfibncfaa
open Go.RowKit

theorem first_bad (ws : List Int) (h7 : ws.length = 7) (h : ¬ okW ws) : ∃ m, m < 7 ∧ ¬ (0 ≤ wg ws m ∧ wg ws m ≤ 1000000) ∧ ∀ j, j < m → 0 ≤ wg ws j ∧ wg ws j ≤ 1000000 := by
  have hex : ∃ n, n < 7 ∧ ¬ (0 ≤ wg ws n ∧ wg ws n ≤ 1000000) := Classical.byContradiction fun hc => h fun x hx => by
    obtain ⟨i, hi⟩ := List.getElem?_of_mem hx
    have hl : i < ws.length := (List.getElem?_eq_some_iff.1 hi).1
    have := wg_get ws i hl
    rw [hi] at this
    injection this with this
    subst this
    exact Classical.byContradiction fun hb => hc ⟨i, by omega, hb⟩
  have key : ∀ n, (∃ m, m < n ∧ m < 7 ∧ ¬ (0 ≤ wg ws m ∧ wg ws m ≤ 1000000)) → ∃ m, m < 7 ∧ ¬ (0 ≤ wg ws m ∧ wg ws m ≤ 1000000) ∧ ∀ j, j < m → 0 ≤ wg ws j ∧ wg ws j ≤ 1000000 := by
    intro n
    induction n with
    | zero => rintro ⟨m, hm, _⟩; omega
    | succ n ih =>
      rintro ⟨m, hm, h6, hb⟩
      by_cases hp : ∃ m', m' < m ∧ m' < 7 ∧ ¬ (0 ≤ wg ws m' ∧ wg ws m' ≤ 1000000)
      · obtain ⟨m', h1, h2, h3⟩ := hp
        exact ih ⟨m', by omega, h2, h3⟩
      · exact ⟨m, h6, hb, fun j hj => Classical.byContradiction fun hc => hp ⟨j, hj, by omega, hc⟩⟩
  obtain ⟨n, hn, hb⟩ := hex
  exact key 7 ⟨n, hn, hn, hb⟩
theorem sum_no (ws : List Int) (h7 : ws.length = 7) (hw : ¬ okW ws) (W : World) :
    Calls Try.prog 24 #[wV ws] W fun e w' => e = .returned (.tuple #[.int .i64 0, .bool false]) ∧ Below W.heap.size W w' := by
  have HI := Lib.hid (fun k hk => w_index ws h7 k hk)
  obtain ⟨m, hm, hbad, hgood⟩ := first_bad ws h7 hw
  have HG := Lib.hid hgood
  have HB := Lib.hid hbad
  have HS := Lib.hid (fun k (hk : k ≤ m) => wsum_le ws k (by omega) (fun j hj => hgood j (by omega)))
  have HN := Lib.hid (fun k (hk : k < 7) => wsum_succ ws k (by omega))
  obtain ⟨x0, x1, x2, x3, x4, x5, x6, rfl⟩ : ∃ a b c d e f g, ws = [a, b, c, d, e, f, g] := by
    match ws, h7 with
    | [a, b, c, d, e, f, g], _ => exact ⟨_, _, _, _, _, _, _, rfl⟩
  generalize hws : [x0, x1, x2, x3, x4, x5, x6] = ws at *
  have HW := Lib.hid hws
  have HV : Hid (wV ws = .agg #[.int .i64 x0, .int .i64 x1, .int .i64 x2, .int .i64 x3, .int .i64 x4, .int .i64 x5, .int .i64 x6]) := Lib.hid (by rw [← hws]; rfl)
  rw [HV.out]
  clear hws hw h7 hgood hbad
  go_enter Try.func24, Try.ntmps24
  go_wp2_with fail
  go_loop [4, 8] (fun v i => ∃ k : Nat, k ≤ m ∧ i = .int .i64 k ∧ v = .int .i64 (wsum ws k)) (fun _ i => 7 - (intOf i).toNat)
  case atStart => exact ⟨0, by omega, rfl, rfl⟩
  case round =>
    obtain ⟨k, hk, rfl, rfl⟩ := hrel
    obtain ⟨s0, s1⟩ := HS.out k hk
    have hk7 : k < 7 := by omega
    have hx := HI.out k hk7
    rw [HV.out] at hx
    by_cases hkl : k < m
    · obtain ⟨b0, b1⟩ := HG.out k hkl
      go_wp2_with fail
      go_round
      case rel => exact ⟨k + 1, hkl, by go_num, by rw [HN.out k hk7]⟩
      case measure => simp [intOf]; omega
    · obtain rfl : k = m := by omega
      have hb := HB.out
      rcases (show wg ws k < 0 ∨ (0 ≤ wg ws k ∧ 1000000 < wg ws k) by omega) with h1 | ⟨h1, h2⟩
      · clear hb
        go_wp2
        go_ret2
        exact ⟨rfl, (Below.refl _ W).alloc (Nat.le_refl _) _⟩
      · clear hb
        go_wp2
        go_ret2
        exact ⟨rfl, (Below.refl _ W).alloc (Nat.le_refl _) _⟩
/-- The kind of a number: it lies from the sum of the weights ahead on, below the sum with its own. -/
def isKind (ws : List Int) (n : Int) (k : Nat) : Prop := k < 7 ∧ wsum ws k ≤ n ∧ n < wsum ws (k + 1)
theorem wsum_mono {ws : List Int} (h7 : ws.length = 7) (hw : okW ws) : ∀ (d i : Nat), i + d ≤ 7 → wsum ws i ≤ wsum ws (i + d)
  | 0, i, _ => Int.le_refl _
  | d + 1, i, h => by
    have h1 := wsum_mono h7 hw d i (by omega)
    have h2 := wsum_succ ws (i + d) (by omega)
    have h3 := okW_wg hw (i + d)
    rw [show i + (d + 1) = i + d + 1 by omega]
    omega
theorem isKind_one {ws : List Int} (h7 : ws.length = 7) (hw : okW ws) {n : Int} {i j : Nat} (hi : isKind ws n i) (hj : isKind ws n j) : i = j := by
  obtain ⟨a1, a2, a3⟩ := hi
  obtain ⟨b1, b2, b3⟩ := hj
  rcases Nat.lt_trichotomy i j with h | h | h
  · have := wsum_mono h7 hw (j - (i + 1)) (i + 1) (by omega)
    rw [show i + 1 + (j - (i + 1)) = j by omega] at this
    omega
  · exact h
  · have := wsum_mono h7 hw (i - (j + 1)) (j + 1) (by omega)
    rw [show j + 1 + (i - (j + 1)) = i by omega] at this
    omega
theorem kind_any (ws : List Int) (h7 : ws.length = 7) (hw : okW ws) (n : Int) (W : World) (h0 : 0 ≤ n) (h1 : n < wsum ws 7) :
    Calls Try.prog 26 #[.int .i64 n, wV ws] W fun e w' => ∃ k : Nat, isKind ws n k ∧ e = .returned (.int .i64 k) ∧ W.alloc (.cells (ws.map (fun x => Value.int .i64 x)).toArray 38) = w' := by
  have HI := Lib.hid (fun k hk => w_index ws h7 k hk)
  have HB := Lib.hid (okW_wg hw)
  have HS := Lib.hid (fun k (hk : k ≤ 7) => wsum_le ws k (by omega) (fun j _ => okW_wg hw j))
  have HN := Lib.hid (fun k (hk : k < 7) => wsum_succ ws k (by omega))
  have HL := Lib.hid h1
  obtain ⟨x0, x1, x2, x3, x4, x5, x6, rfl⟩ : ∃ a b c d e f g, ws = [a, b, c, d, e, f, g] := by
    match ws, h7 with
    | [a, b, c, d, e, f, g], _ => exact ⟨_, _, _, _, _, _, _, rfl⟩
  generalize hws : [x0, x1, x2, x3, x4, x5, x6] = ws at *
  have HW := Lib.hid hws
  have HV : Hid (wV ws = .agg #[.int .i64 x0, .int .i64 x1, .int .i64 x2, .int .i64 x3, .int .i64 x4, .int .i64 x5, .int .i64 x6]) := Lib.hid (by rw [← hws]; rfl)
  rw [HV.out]
  have hmx : n ≤ 7000000 := by have := (HS.out 7 (by omega)).2; omega
  clear hws hw h7 h1
  go_enter Try.func26, Try.ntmps26
  go_wp2_with fail
  go_loop [0, 8] (fun v i => ∃ k : Nat, k ≤ 7 ∧ i = .int .i64 k ∧ v = .int .i64 (n - wsum ws k) ∧ wsum ws k ≤ n) (fun _ i => 7 - (intOf i).toNat)
  case atStart => exact ⟨0, by omega, rfl, by simp [wsum], by simpa [wsum] using h0⟩
  case round =>
    obtain ⟨k, hk, rfl, rfl, hle⟩ := hrel
    obtain ⟨s0, s1⟩ := HS.out k hk
    by_cases hkl : k < 7
    · have hx := HI.out k hkl
      rw [HV.out] at hx
      obtain ⟨b0, b1⟩ := HB.out k
      by_cases hlt : n - wsum ws k < wg ws k
      · have HLT : Hid (n < wsum ws (k + 1)) := Lib.hid (by rw [HN.out k hkl]; omega)
        go_wp2
        go_ret
        refine ⟨k, ⟨hkl, hle, HLT.out⟩, rfl, ?_⟩
        rw [← HW.out]
        rfl
      · have HLT : Hid (wsum ws (k + 1) ≤ n ∧ n - wsum ws k - wg ws k = n - wsum ws (k + 1)) := Lib.hid (by rw [HN.out k hkl]; omega)
        go_wp2_with fail
        go_round
        case rel => exact ⟨k + 1, hkl, by go_num, by rw [HLT.out.2], HLT.out.1⟩
        case measure => simp [intOf]; omega
    · obtain rfl : k = 7 := by omega
      have := HL.out
      omega
end Go.Proofs.Ytkiicgdfibncfaa
