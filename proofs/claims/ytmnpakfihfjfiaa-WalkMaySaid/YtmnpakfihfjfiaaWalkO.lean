/- WalkPages, plain laws. -/
import Derived.Test.YtmnpakfihfjfiaaWalkK
namespace Go.Proofs.Ytmnpakfihfjfiaa
open Go.RowKit

theorem findW_leaf {n ppn va x l a : Nat} {S : Nat → List Nat} {on : Bool} (h : findW n S on ppn va = .leaf x l a) : l ≤ 2 ∧ a % 8 = 0 ∧ a < 4096 * n := by
  unfold findW at h
  split at h
  · split at h
    · have := find_leaf h
      exact ⟨this.1, this.2.1, this.2.2.1⟩
    · cases h
  · cases h
theorem findW_page {n ppn va o x l a : Nat} {S : Nat → List Nat} {on : Bool} (h : findW n S on ppn va = .leaf x l a) : findW n S on ppn (besV va o l) = .leaf x l a := by
  have hl := (findW_leaf h).1
  unfold findW at h ⊢
  split at h
  · rename_i h1
    rw [if_pos h1]
    split at h
    · rename_i h2
      rw [if_pos (by rw [bes_canon hl]; exact h2)]
      exact find_page (fun k hk => bes_index hl k hk) h
    · cases h
  · cases h
theorem satp_row : rowT Try.prog 31 3 = true := by kernel_rfl
theorem satp_one (on : Bool) (asid ppn : Int) : (#[.bool on, .int .i64 asid, .int .u64 ppn] : Array Value).all (·.oneCell') = true := by simp [Value.oneCell']
theorem bes_wrap0 {va o : Nat} (hv : va < 18446744073709551616) :
    IntKind.u64.wrap (IntKind.u64.wrap ((va : Int) - (va : Int).tmod 4096) + (o : Int).tmod 4096) = ((besV va o 0 : Nat) : Int) := by
  rw [IntKind.wrap_u64, IntKind.wrap_u64, Int.tmod_eq_emod_of_nonneg (by omega), Int.tmod_eq_emod_of_nonneg (by omega)]
  unfold besV spN
  simp
  omega
theorem bes_wrap1 {va o : Nat} (hv : va < 18446744073709551616) :
    IntKind.u64.wrap (IntKind.u64.wrap ((va : Int) - (va : Int).tmod 2097152) + (o : Int).tmod 2097152) = ((besV va o 1 : Nat) : Int) := by
  rw [IntKind.wrap_u64, IntKind.wrap_u64, Int.tmod_eq_emod_of_nonneg (by omega), Int.tmod_eq_emod_of_nonneg (by omega)]
  unfold besV spN
  simp
  omega
theorem bes_wrap2 {va o : Nat} (hv : va < 18446744073709551616) :
    IntKind.u64.wrap (IntKind.u64.wrap ((va : Int) - (va : Int).tmod 1073741824) + (o : Int).tmod 1073741824) = ((besV va o 2 : Nat) : Int) := by
  rw [IntKind.wrap_u64, IntKind.wrap_u64, Int.tmod_eq_emod_of_nonneg (by omega), Int.tmod_eq_emod_of_nonneg (by omega)]
  unfold besV spN
  simp
  omega
theorem bes_diff {p va o l : Nat} (hl : l ≤ 2) (hv : va < 18446744073709551616) (hp : p < 17592186044416) :
    IntKind.u64.wrap (((joinV p (besV va o l) (l : Int) : Nat) : Int) - ((joinV p va (l : Int) : Nat) : Int)) = IntKind.u64.wrap (((besV va o l : Nat) : Int) - (va : Int)) := by
  rw [bes_join hl hv hp]
end Go.Proofs.Ytmnpakfihfjfiaa
