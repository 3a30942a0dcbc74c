/- WalkPages: all addresses of one page come to one entry, of any words, any address and any other. -/
import Derived.Test.YtmnpakfihfjfiaaWalkQ
namespace Go.Proofs.Ytmnpakfihfjfiaa
open Go.RowKit

theorem Law.WalkPages (a : Option Addr) (len cap : Nat) (va other : Int) (W : World) (hz : IsRows [.int .u64, .int .u64] W a len cap) (hc : 16 * cap ≤ 140737488351232) (hv : (Lit.int .u64 va).wf = true) (ho : (Lit.int .u64 other).wf = true) :
    Calls Try.prog 4 #[.slice a len cap, .int .u64 va, .int .u64 other] W fun e w' => e = .returned (.bool true) ∧ Below W.heap.size W w' := by
  obtain ⟨va, rfl⟩ := Int.eq_ofNat_of_zero_le (u64_of_wf hv).1
  obtain ⟨other, rfl⟩ := Int.eq_ofNat_of_zero_le (u64_of_wf ho).1
  have l1 := (u64_of_wf hv).2
  have l2 := (u64_of_wf ho).2
  obtain ⟨ws, hl, hw⟩ := wd_of_rows hz
  exact pages_any va other a len cap ws W (by omega) (by omega) hl hw (rows_len hz hc)
end Go.Proofs.Ytmnpakfihfjfiaa
