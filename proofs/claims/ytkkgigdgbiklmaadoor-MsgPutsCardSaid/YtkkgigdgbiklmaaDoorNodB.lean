/- The lowest node of a set; the next one; how many. -/
import Derived.Test.YtkkgigdgbiklmaaDoorNodT
namespace Go.Proofs.YtkkgigdgbiklmaaDoor
open Go.RowKit

def tab32 : List Nat := [0, 1, 28, 2, 29, 14, 24, 3, 30, 22, 20, 15, 25, 17, 4, 8, 31, 27, 13, 23, 21, 19, 16, 7, 26, 12, 18, 6, 11, 5, 10, 9]
/-- The library's table lies there. -/
def Tab (w : World) : Prop := ∀ i : Nat, i < 32 → w.cell? ⟨1, i, none⟩ = some (.int .u8 ((tab32.getD i 0 : Nat) : Int))
theorem Tab.below {w w' : World} (h : Tab w) (hb : Below w.heap.size w w') : Tab w' := fun i hi => by rw [hb.cell (cell_lt (h i hi))]; exact h i hi
theorem tz_tab : ∀ k : Fin 16, tab32.getD (2 ^ k.val * 125613361 % 4294967296 / 134217728) 0 = k.val := by decide
set_option maxHeartbeats 400000 in
theorem tz_any (s : Nat) (W : World) (h0 : 0 < s) (h : s < 65536) (hT : Tab W) :
    Calls Tryd.prog 61 #[.int .u16 s] W fun e w' => e = .returned (.int .i64 (tzN s : Int)) ∧ W = w' := by
  have hk := tz_lt s h0 h
  have hp := tz_pow s h0 h
  generalize tzN s = k at *
  have ht := tz_tab ⟨k, hk⟩
  have h1 : IntKind.u16.wrap (-(s : Int)) = ((65536 - s : Nat) : Int) := by simp [IntKind.wrap, IntKind.signed, IntKind.bits]; omega
  have h2 := u16_and s (65536 - s) h (by omega)
  rw [hp] at h2
  have hp2 : 2 ^ k < 65536 := Nat.pow_lt_pow_right (show 1 < 2 by decide) hk
  have hc := hT (2 ^ k * 125613361 % 4294967296 / 134217728) (by omega)
  have ht' : tab32.getD (2 ^ k * 125613361 % 4294967296 / 134217728) 0 = k := ht
  rw [ht'] at hc
  have hne : ((s : Int) == 0) = false := beq_eq_false_iff_ne.2 (by omega)
  generalize 2 ^ k = p at *
  generalize 65536 - s = q at *
  clear ht ht' hp hT
  go_enter Tryd.func61, Tryd.ntmps61
  go_wp2
  go_ret
  exact ⟨rfl, rfl⟩
set_option maxHeartbeats 400000 in
theorem next_any (s : Nat) (n : Int) (W : World) (hs : s < 65536) (hn : -9223372036854775808 ≤ n ∧ n < 9223372036854775808) (hT : Tab W) :
    Calls Tryd.prog 50 #[.int .u16 s, .int .i64 n] W fun e w' => e = .returned (.int .i64 (nextI s n)) ∧ W = w' := by
  by_cases h16 : 16 ≤ n
  · have H := Lib.hid (next_big s n h16)
    go_enter Tryd.func50, Tryd.ntmps50
    go_wp2
    go_ret
    exact ⟨by rw [H.out]; rfl, rfl⟩
  · obtain ⟨m, hm⟩ : ∃ m : Nat, (m : Int) = max n 0 := ⟨(max n 0).toNat, by omega⟩
    have HT := Lib.hid hT
    have hml : m < 16 := by omega
    have hmax : (if n < 0 then 0 else n) = (m : Int) := by split <;> omega
    have hlt : ¬ 16 ≤ n := h16
    have hc0 := next_zero s n m hm
    have hc1 := next_some s n m hs hm
    have hcl := Nat.lt_of_le_of_lt (cut_le s m) hs
    have hcw : IntKind.u16.wrap ((s : Int) / 2 ^ m * 2 ^ m) = ((cutN s m : Nat) : Int) := by
      have := u16_wrap (cutN s m) hcl
      rw [← this]
      unfold cutN
      simp
    generalize cutN s m = c at *
    by_cases hz : c = 0
    · have HZ := Lib.hid (hc0 hz)
      subst hz
      clear hc0 hc1 hcl hT hn hm
      go_enter Tryd.func50, Tryd.ntmps50
      go_wp2_with fail
      go_ret
      exact ⟨by rw [HZ.out]; rfl, rfl⟩
    · have hp : 0 < c := by omega
      have HSM := Lib.hid (hc1 hp)
      have HP := Lib.hid (And.intro hp hcl)
      have hne : ((c : Int) == 0) = false := beq_eq_false_iff_ne.2 (by omega)
      clear hc0 hc1 hcl hT hn hm hp hz
      go_enter Tryd.func50, Tryd.ntmps50
      go_wp2_with fail
      refine (tz_any c _ HP.out.1 HP.out.2 HT.out).mono ?_
      rintro e w ⟨rfl, rfl⟩
      go_wp2_with fail
      go_ret
      exact ⟨by rw [HSM.out]; rfl, rfl⟩
def popB : ByteArray := ⟨#[0, 1, 1, 2, 1, 2, 2, 3, 1, 2, 2, 3, 2, 3, 3, 4, 1, 2, 2, 3, 2, 3, 3, 4, 2, 3, 3, 4, 3, 4, 4, 5, 1, 2, 2, 3, 2, 3, 3, 4, 2, 3, 3, 4, 3, 4, 4, 5, 2, 3, 3, 4, 3, 4, 4, 5, 3, 4, 4, 5, 4, 5, 5, 6, 1, 2, 2, 3, 2, 3, 3, 4, 2, 3, 3, 4, 3, 4, 4, 5, 2, 3, 3, 4, 3, 4, 4, 5, 3, 4, 4, 5, 4, 5, 5, 6, 2, 3, 3, 4, 3, 4, 4, 5, 3, 4, 4, 5, 4, 5, 5, 6, 3, 4, 4, 5, 4, 5, 5, 6, 4, 5, 5, 6, 5, 6, 6, 7, 1, 2, 2, 3, 2, 3, 3, 4, 2, 3, 3, 4, 3, 4, 4, 5, 2, 3, 3, 4, 3, 4, 4, 5, 3, 4, 4, 5, 4, 5, 5, 6, 2, 3, 3, 4, 3, 4, 4, 5, 3, 4, 4, 5, 4, 5, 5, 6, 3, 4, 4, 5, 4, 5, 5, 6, 4, 5, 5, 6, 5, 6, 6, 7, 2, 3, 3, 4, 3, 4, 4, 5, 3, 4, 4, 5, 4, 5, 5, 6, 3, 4, 4, 5, 4, 5, 5, 6, 4, 5, 5, 6, 5, 6, 6, 7, 3, 4, 4, 5, 4, 5, 5, 6, 4, 5, 5, 6, 5, 6, 6, 7, 4, 5, 5, 6, 5, 6, 6, 7, 5, 6, 6, 7, 6, 7, 7, 8]⟩
def popN (i : Nat) : Nat := ((List.range 8).filter (fun k => i.testBit k)).length
theorem pop_at : ∀ i : Fin 256, (popB.data.getD i.val 0).toNat = popN i.val := by decide +kernel
theorem pop_size : popB.size = 256 := by decide +kernel
theorem idx_pop (w : World) (k : IntKind) (i : Nat) (hi : i < 256) : (Instr.index 9 (.string popB) (.int k (i : Int))).run Tryd.prog w = .ok (.int .u8 (popN i : Nat)) w := by
  have h1 : (0 : Int) ≤ (i : Int) ∧ (i : Int) < (popB.size : Int) := by rw [pop_size]; omega
  have h2 := pop_at ⟨i, hi⟩
  have h3 : i < popB.size := by rw [pop_size]; exact hi
  have h4 : popB[i]'h3 = popB.data.getD i 0 := by rw [Array.getD_eq_getD_getElem?, Array.getElem?_eq_getElem (show i < popB.data.size from h3)]; rfl
  have h5 : (popB[i]'h3).toNat = popN i := by rw [h4]; exact h2
  have h6 := getElem?_pos popB i h3
  generalize popB = pb at *
  simp [Instr.index, h6, run_underlying Tryd.underlying9, asIntOf, h1, h5]
theorem run_index_op {P : Program} {a : Act} {o : Oper} {w : World} {t : TypeId} {x y : Operand} {X Y v : Value} (ho : o.op = .index t x y) (hx : a.eval x = X) (hy : a.eval y = Y) (h : (Instr.index t X Y).run P w = .ok v w) : (execOp a.eval o).run P w = .ok (.value v) w := by
  unfold execOp
  simp [ho, hx, hy, h]
theorem len_split (s : Nat) : lenN s = popN (s / 256) + popN (s &&& 255) := by
  unfold lenN listN popN
  have e : List.range 16 = List.range 8 ++ (List.range 8).map (· + 8) := by decide
  rw [e, List.filter_append, List.length_append, List.filter_map, List.length_map, Nat.add_comm]
  congr 1
  · congr 1
    apply List.filter_congr
    intro k _
    simp only [Function.comp_apply]
    rw [show (256 : Nat) = 2 ^ 8 from rfl, Nat.testBit_div_two_pow]
  · congr 1
    apply List.filter_congr
    intro k hk
    have := List.mem_range.1 hk
    rw [Nat.testBit_and, show (255 : Nat) = 2 ^ 8 - 1 from rfl, Nat.testBit_two_pow_sub_one]
    simp [this]
theorem pop_le (i : Nat) : popN i ≤ 8 := by
  unfold popN
  exact Nat.le_trans (List.length_filter_le _ _) (by simp)
end Go.Proofs.YtkkgigdgbiklmaaDoor
