/- Find: all; Place. -/
import Derived.Test.YtmnpakfihfjfiaaWalkF
namespace Go.Proofs.Ytmnpakfihfjfiaa
open Go.RowKit

def leafZ : Value := .agg #[.bool false, .bool false, .bool false, .bool false, .bool false, .bool false, .bool false, .bool false, .int .i64 0, .int .u64 0, .int .i64 0, .int .u64 0]
theorem find_off (p : Option Addr) (va : Nat) (asid ppn : Int) (W : World) (hp : p ≠ none) :
    Calls Try.prog 9 #[.pointer p, .agg #[.bool false, .int .i64 asid, .int .u64 ppn], .int .u64 (va : Int)] W fun e w' => e = .returned (.tuple #[leafZ, .int .i64 2]) ∧ Below W.heap.size W w' := by
  obtain ⟨p, rfl⟩ := Option.ne_none_iff_exists'.1 hp
  clear hp
  go_enter Try.func9, Try.ntmps9
  go_wp2_with fail
  go_step3
  go_wp2_with fail
  simp only [Exit.noGoto]
  refine bodyPost_ret (v := .tuple #[leafZ, .int .i64 2]) (by simp [leafZ, results, Try.results9, go_sem]) rfl ⟨rfl, by go_grown⟩
theorem find_nil (va : Nat) (on : Bool) (asid ppn : Int) (W : World) :
    Calls Try.prog 9 #[.pointer none, .agg #[.bool on, .int .i64 asid, .int .u64 ppn], .int .u64 (va : Int)] W fun e w' => e = .returned (.tuple #[leafZ, .int .i64 1]) ∧ Below W.heap.size W w' := by
  go_enter Try.func9, Try.ntmps9
  go_wp2_with fail
  go_step3
  go_wp2_with fail
  simp only [Exit.noGoto]
  refine bodyPost_ret (v := .tuple #[leafZ, .int .i64 1]) (by simp [leafZ, results, Try.results9, go_sem]) rfl ⟨rfl, by go_grown⟩
theorem find_non (p : Option Addr) (va : Nat) (asid ppn : Int) (W : World) (hp : p ≠ none) (hv : va < 18446744073709551616) (hc : canonB va = false) :
    Calls Try.prog 9 #[.pointer p, .agg #[.bool true, .int .i64 asid, .int .u64 ppn], .int .u64 (va : Int)] W fun e w' => e = .returned (.tuple #[leafZ, .int .i64 51]) ∧ Below W.heap.size W w' := by
  obtain ⟨p, rfl⟩ := Option.ne_none_iff_exists'.1 hp
  clear hp
  have HV := Lib.hid hv
  have HC := Lib.hid hc
  clear hv hc
  go_enter Try.func9, Try.ntmps9
  go_wp2_with fail
  go_step3
  go_wp2_with fail
  refine (canon_any va _ HV.out).mono ?_
  rintro e w' ⟨rfl, rfl⟩
  rw [HC.out]
  go_wp2_with fail
  simp only [Exit.noGoto]
  refine bodyPost_ret (v := .tuple #[leafZ, .int .i64 51]) (by simp [leafZ, results, Try.results9, go_sem]) rfl ⟨rfl, by go_grown⟩
/-- What Find says, of any satp and any address. -/
theorem Find_any (g n va ppn : Nat) (asid : Int) (on : Bool) (F : Nat → Prop) (S : Nat → List Nat) (W : World) (h : Mem W g F n S) (hv : va < 18446744073709551616) (hp : ppn < 18446744073709551616) :
    Calls Try.prog 9 #[.pointer (some ⟨g, 0, none⟩), .agg #[.bool on, .int .i64 asid, .int .u64 (ppn : Int)], .int .u64 (va : Int)] W fun e w' =>
      e = .returned (.tuple #[fdV (findW n S on ppn va), .int .i64 (fdE (findW n S on ppn va))]) ∧ Below W.heap.size W w' := by
  unfold findW
  cases on with
  | false => exact find_off _ va asid ppn W (by simp)
  | true =>
    cases hc : canonB va with
    | false => exact find_non _ va asid ppn W (by simp) hv hc
    | true => exact find_any g n va ppn asid true F S W h hv hp rfl hc
theorem place_leaf (x l a va : Nat) (W : World) (hv : va < 18446744073709551616) :
    Calls Try.prog 10 #[fdV (.leaf x l a), .int .u64 (va : Int)] W fun e w' => e = .returned (.int .u64 ((joinV (ppnX x) va (l : Int) : Nat) : Int)) ∧ Below W.heap.size W w' := by
  have HV := Lib.hid hv
  clear hv
  unfold fdV
  go_enter Try.func10, Try.ntmps10
  go_wp2_with fail
  rw [ppn_x]
  refine (join_any (ppnX x) va (l : Int) _ (Nat.lt_trans (ppnX_lt _) (by decide)) HV.out).mono ?_
  rintro e w' ⟨rfl, rfl⟩
  go_wp2_with fail
  go_ret
  exact ⟨rfl, by go_grown⟩
end Go.Proofs.Ytmnpakfihfjfiaa
