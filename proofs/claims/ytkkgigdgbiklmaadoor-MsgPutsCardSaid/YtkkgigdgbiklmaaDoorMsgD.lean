/- The words of a message. -/
import Derived.Test.YtkkgigdgbiklmaaDoorMsgA
import Derived.Test.YtkkgigdgbiklmaaDoorNodF
import Derived.Lib.AppendIntMem
import Derived.Lib.ItoaLen
import Derived.Deep.CutBlock
namespace Go.Proofs.YtkkgigdgbiklmaaDoor
open Go.RowKit

/-- The library's two tables lie there. -/
def FW (W : World) : Prop := Tab W ∧ Lib.TabIs Tryd.prog W "internal/strconv.uint64pow10" .u64 Lib.pow10Tab
theorem FW.below {w w' : World} (h : FW w) (hb : Below w.heap.size w w') : FW w' := by
  refine ⟨h.1.below hb, ?_⟩
  have h2 := h.2
  unfold Lib.TabIs World.var? at h2 ⊢
  cases hg : Tryd.prog.globalNamed "internal/strconv.uint64pow10" with
  | none => rw [hg] at h2; exact h2
  | some g =>
    rw [hg] at h2
    rw [Option.bind_some] at h2 ⊢
    have hlt : g < w.heap.size := by
      rcases Nat.lt_or_ge g w.heap.size with h | h
      · exact h
      · rw [Array.getElem?_eq_none h] at h2; cases h2
    rw [hb.block g hlt]
    exact h2
theorem itoaA (n : Int) (W : World) (h0 : -9223372036854775808 ≤ n ∧ n < 9223372036854775808) (hF : FW W) :
    Calls Tryd.prog 26 #[.int .i64 n] W fun e w' => e = .returned (.string (strL (Lib.itoa n))) ∧ Below W.heap.size W w' := by
  refine (Tryd.strconv_Itoa n h0.1 (by omega) W hF.2).mono ?_
  rintro e w' ⟨rfl, k, os, rfl⟩
  exact ⟨rfl, Lib.below_grow _ W (Nat.le_refl _) k os⟩
def kL (k : Int) : List UInt8 :=
  if k = 1 then [114, 101, 97, 100] else if k = 2 then [119, 114, 105, 116, 101] else if k = 3 then [99, 111, 112, 121] else if k = 4 then [103, 114, 97, 110, 116] else if k = 5 then [102, 111, 114, 103, 101, 116] else if k = 6 then [102, 111, 114, 103, 111, 116] else [63]
def kArr : Array Value := #[.string ⟨#[114, 101, 97, 100]⟩, .string ⟨#[119, 114, 105, 116, 101]⟩, .string ⟨#[99, 111, 112, 121]⟩, .string ⟨#[103, 114, 97, 110, 116]⟩, .string ⟨#[102, 111, 114, 103, 101, 116]⟩, .string ⟨#[102, 111, 114, 103, 111, 116]⟩]
set_option maxRecDepth 100000 in
theorem kind_any (k : Int) (W : World) : Calls Tryd.prog 25 #[.int .i64 k] W fun e w' => e = .returned (.string (strL (kL k))) ∧ W = w' := by
  by_cases h1 : k < 1
  · have e : kL k = [63] := by unfold kL; rw [if_neg (by omega), if_neg (by omega), if_neg (by omega), if_neg (by omega), if_neg (by omega), if_neg (by omega)]
    rw [e]
    go_enter Tryd.func25, Tryd.ntmps25
    go_wp2_with fail
    go_ret
    exact ⟨rfl, rfl⟩
  · by_cases h6 : 6 < k
    · have e : kL k = [63] := by unfold kL; rw [if_neg (by omega), if_neg (by omega), if_neg (by omega), if_neg (by omega), if_neg (by omega), if_neg (by omega)]
      rw [e]
      go_enter Tryd.func25, Tryd.ntmps25
      go_wp2_with fail
      go_ret
      exact ⟨rfl, rfl⟩
    · rcases (show k = 1 ∨ k = 2 ∨ k = 3 ∨ k = 4 ∨ k = 5 ∨ k = 6 by omega) with rfl | rfl | rfl | rfl | rfl | rfl
      · have kx : ∀ w, (Instr.index 56 (.agg #[.string ⟨#[114, 101, 97, 100]⟩, .string ⟨#[119, 114, 105, 116, 101]⟩, .string ⟨#[99, 111, 112, 121]⟩, .string ⟨#[103, 114, 97, 110, 116]⟩, .string ⟨#[102, 111, 114, 103, 101, 116]⟩, .string ⟨#[102, 111, 114, 103, 111, 116]⟩]) (.int .i64 0)).run Tryd.prog w = .ok (.string ⟨#[114, 101, 97, 100]⟩) w := fun w => run_index_arr w 56 9 6 #[.string ⟨#[114, 101, 97, 100]⟩, .string ⟨#[119, 114, 105, 116, 101]⟩, .string ⟨#[99, 111, 112, 121]⟩, .string ⟨#[103, 114, 97, 110, 116]⟩, .string ⟨#[102, 111, 114, 103, 101, 116]⟩, .string ⟨#[102, 111, 114, 103, 111, 116]⟩] .i64 0 _ Tryd.underlying56 (by kernel_rfl) (by kernel_rfl) (by decide) rfl
        go_enter Tryd.func25, Tryd.ntmps25
        go_wp2_with fail
        go_ret
        exact ⟨rfl, rfl⟩
      · have kx : ∀ w, (Instr.index 56 (.agg #[.string ⟨#[114, 101, 97, 100]⟩, .string ⟨#[119, 114, 105, 116, 101]⟩, .string ⟨#[99, 111, 112, 121]⟩, .string ⟨#[103, 114, 97, 110, 116]⟩, .string ⟨#[102, 111, 114, 103, 101, 116]⟩, .string ⟨#[102, 111, 114, 103, 111, 116]⟩]) (.int .i64 1)).run Tryd.prog w = .ok (.string ⟨#[119, 114, 105, 116, 101]⟩) w := fun w => run_index_arr w 56 9 6 #[.string ⟨#[114, 101, 97, 100]⟩, .string ⟨#[119, 114, 105, 116, 101]⟩, .string ⟨#[99, 111, 112, 121]⟩, .string ⟨#[103, 114, 97, 110, 116]⟩, .string ⟨#[102, 111, 114, 103, 101, 116]⟩, .string ⟨#[102, 111, 114, 103, 111, 116]⟩] .i64 1 _ Tryd.underlying56 (by kernel_rfl) (by kernel_rfl) (by decide) rfl
        go_enter Tryd.func25, Tryd.ntmps25
        go_wp2_with fail
        go_ret
        exact ⟨rfl, rfl⟩
      · have kx : ∀ w, (Instr.index 56 (.agg #[.string ⟨#[114, 101, 97, 100]⟩, .string ⟨#[119, 114, 105, 116, 101]⟩, .string ⟨#[99, 111, 112, 121]⟩, .string ⟨#[103, 114, 97, 110, 116]⟩, .string ⟨#[102, 111, 114, 103, 101, 116]⟩, .string ⟨#[102, 111, 114, 103, 111, 116]⟩]) (.int .i64 2)).run Tryd.prog w = .ok (.string ⟨#[99, 111, 112, 121]⟩) w := fun w => run_index_arr w 56 9 6 #[.string ⟨#[114, 101, 97, 100]⟩, .string ⟨#[119, 114, 105, 116, 101]⟩, .string ⟨#[99, 111, 112, 121]⟩, .string ⟨#[103, 114, 97, 110, 116]⟩, .string ⟨#[102, 111, 114, 103, 101, 116]⟩, .string ⟨#[102, 111, 114, 103, 111, 116]⟩] .i64 2 _ Tryd.underlying56 (by kernel_rfl) (by kernel_rfl) (by decide) rfl
        go_enter Tryd.func25, Tryd.ntmps25
        go_wp2_with fail
        go_ret
        exact ⟨rfl, rfl⟩
      · have kx : ∀ w, (Instr.index 56 (.agg #[.string ⟨#[114, 101, 97, 100]⟩, .string ⟨#[119, 114, 105, 116, 101]⟩, .string ⟨#[99, 111, 112, 121]⟩, .string ⟨#[103, 114, 97, 110, 116]⟩, .string ⟨#[102, 111, 114, 103, 101, 116]⟩, .string ⟨#[102, 111, 114, 103, 111, 116]⟩]) (.int .i64 3)).run Tryd.prog w = .ok (.string ⟨#[103, 114, 97, 110, 116]⟩) w := fun w => run_index_arr w 56 9 6 #[.string ⟨#[114, 101, 97, 100]⟩, .string ⟨#[119, 114, 105, 116, 101]⟩, .string ⟨#[99, 111, 112, 121]⟩, .string ⟨#[103, 114, 97, 110, 116]⟩, .string ⟨#[102, 111, 114, 103, 101, 116]⟩, .string ⟨#[102, 111, 114, 103, 111, 116]⟩] .i64 3 _ Tryd.underlying56 (by kernel_rfl) (by kernel_rfl) (by decide) rfl
        go_enter Tryd.func25, Tryd.ntmps25
        go_wp2_with fail
        go_ret
        exact ⟨rfl, rfl⟩
      · have kx : ∀ w, (Instr.index 56 (.agg #[.string ⟨#[114, 101, 97, 100]⟩, .string ⟨#[119, 114, 105, 116, 101]⟩, .string ⟨#[99, 111, 112, 121]⟩, .string ⟨#[103, 114, 97, 110, 116]⟩, .string ⟨#[102, 111, 114, 103, 101, 116]⟩, .string ⟨#[102, 111, 114, 103, 111, 116]⟩]) (.int .i64 4)).run Tryd.prog w = .ok (.string ⟨#[102, 111, 114, 103, 101, 116]⟩) w := fun w => run_index_arr w 56 9 6 #[.string ⟨#[114, 101, 97, 100]⟩, .string ⟨#[119, 114, 105, 116, 101]⟩, .string ⟨#[99, 111, 112, 121]⟩, .string ⟨#[103, 114, 97, 110, 116]⟩, .string ⟨#[102, 111, 114, 103, 101, 116]⟩, .string ⟨#[102, 111, 114, 103, 111, 116]⟩] .i64 4 _ Tryd.underlying56 (by kernel_rfl) (by kernel_rfl) (by decide) rfl
        go_enter Tryd.func25, Tryd.ntmps25
        go_wp2_with fail
        go_ret
        exact ⟨rfl, rfl⟩
      · have kx : ∀ w, (Instr.index 56 (.agg #[.string ⟨#[114, 101, 97, 100]⟩, .string ⟨#[119, 114, 105, 116, 101]⟩, .string ⟨#[99, 111, 112, 121]⟩, .string ⟨#[103, 114, 97, 110, 116]⟩, .string ⟨#[102, 111, 114, 103, 101, 116]⟩, .string ⟨#[102, 111, 114, 103, 111, 116]⟩]) (.int .i64 5)).run Tryd.prog w = .ok (.string ⟨#[102, 111, 114, 103, 111, 116]⟩) w := fun w => run_index_arr w 56 9 6 #[.string ⟨#[114, 101, 97, 100]⟩, .string ⟨#[119, 114, 105, 116, 101]⟩, .string ⟨#[99, 111, 112, 121]⟩, .string ⟨#[103, 114, 97, 110, 116]⟩, .string ⟨#[102, 111, 114, 103, 101, 116]⟩, .string ⟨#[102, 111, 114, 103, 111, 116]⟩] .i64 5 _ Tryd.underlying56 (by kernel_rfl) (by kernel_rfl) (by decide) rfl
        go_enter Tryd.func25, Tryd.ntmps25
        go_wp2_with fail
        go_ret
        exact ⟨rfl, rfl⟩
end Go.Proofs.YtkkgigdgbiklmaaDoor
