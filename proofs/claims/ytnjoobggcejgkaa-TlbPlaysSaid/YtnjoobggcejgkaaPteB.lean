/- Contracts: Canonical, Vpn, Join, Leaf, Right. -/
import Derived.Test.YtnjoobggcejgkaaPteA
namespace Go.Proofs.Ytnjoobggcejgkaa
open Go.RowKit

def vpnV (va : Nat) : Nat := va / 4096 % 134217728
theorem vpn_any (va : Nat) (w : World) (hv : va < 18446744073709551616) :
    Calls Try.prog 26 #[.int .u64 va] w fun e w' => e = .returned (.int .u64 ((vpnV va : Nat) : Int)) ∧ w = w' := by
  have HV := Lib.hid hv
  clear hv
  go_enter Try.func26, Try.ntmps26
  go_wp2
  go_ret
  refine ⟨?_, rfl⟩
  show Ending.returned (Value.int .u64 (bits .and .u64 ((va : Int) / 4096) 134217727)) = _
  have h : va / 4096 ≤ va := Nat.div_le_self _ _
  have hv := HV.out
  have e := and_mask (va / 4096) 27 134217727 (by decide) rfl (by omega)
  rw [show ((va : Int) / 4096) = ((va / 4096 : Nat) : Int) by omega, e]
  rfl

end Go.Proofs.Ytnjoobggcejgkaa
