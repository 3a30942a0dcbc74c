/- Contracts: Turn, of both sides. -/
import Derived.Test.YtidfhdkalnaddaaCheckE
namespace Go.Proofs.Ytidfhdkalnaddaa
open Go.RowKit

/-- Bytes with one bit turned. -/
def turnL (l : List Nat) (n : Int) : List Nat := if 0 ≤ n ∧ n / 8 < l.length then l.set (n / 8).toNat (l.getD (n / 8).toNat 0 ^^^ 2 ^ (n % 8).toNat) else l
theorem u8_xor (a b : Nat) (ha : a < 256) (hb : b < 256) : bits .xor .u8 (a : Int) (b : Int) = ((a ^^^ b : Nat) : Int) := by
  have hx : a ^^^ b < 2 ^ 8 := Nat.xor_lt_two_pow (n := 8) ha hb
  have h1 : (BitVec.ofInt 8 (a : Int)).toNat = a := by
    rw [BitVec.ofInt_natCast, BitVec.toNat_ofNat]; exact Nat.mod_eq_of_lt (by omega)
  have h2 : (BitVec.ofInt 8 (b : Int)).toNat = b := by
    rw [BitVec.ofInt_natCast, BitVec.toNat_ofNat]; exact Nat.mod_eq_of_lt (by omega)
  show IntKind.u8.wrap ((BitVec.ofInt 8 (a : Int) ^^^ BitVec.ofInt 8 (b : Int)).toNat : Int) = _
  rw [BitVec.toNat_xor, h1, h2, IntKind.wrap_u8]
  omega
theorem set_bv (l : List Nat) (k x : Nat) : (l.map bv).set k (.int .u8 (x : Int)) = (l.set k x).map bv := by
  rw [List.map_set]; rfl
end Go.Proofs.Ytidfhdkalnaddaa
