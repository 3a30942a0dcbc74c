/- Contracts of the reference's Bytes, Cut, Sign. -/
import Derived.Test.YtkkgigdgbiklmaaDoorWordC
import Derived.OwnWalk
import Derived.Laws.AppendOwn
import Derived.Laws.OwnMore
namespace Go.Proofs.YtkkgigdgbiklmaaDoor
open Go.RowKit

theorem bytesOf_take (v q j : Nat) (h : sizeB q = true) (hj : j < q) : (bytesOf v q).take (j + 1) = (bytesOf v q).take j ++ [byteOf v j] := by
  rw [List.take_succ_eq_append_getElem (by rw [bytesOf_length v q h]; exact hj)]
  have := bytesOf_get v q j h hj
  rw [List.getD_eq_getElem?_getD, List.getElem?_eq_getElem (by rw [bytesOf_length v q h]; exact hj)] at this
  simp at this
  rw [this]

theorem cast_div (v j : Nat) : ((v : Int) / 256 ^ j) = ((v / 256 ^ j : Nat) : Int) := by simp
theorem div_step (v j : Nat) (hv : v < 18446744073709551616) : IntKind.u64.wrap (((v : Int) / 256 ^ j).tdiv 256) = (v : Int) / 256 ^ (j + 1) := by
  have h : v / 256 ^ j ≤ v := Nat.div_le_self _ _
  rw [cast_div, cast_div, Nat.pow_succ, ← Nat.div_div_eq_div_mul]
  generalize v / 256 ^ j = x at *
  rw [IntWalk.u64_quo _ _ (by omega)]
  simp
theorem byte_tmod (v j : Nat) : ((v : Int) / 256 ^ j).tmod 256 % 256 = ((byteOf v j : Nat) : Int) := by
  rw [cast_div, byteOf]
  generalize v / 256 ^ j = x
  rw [Int.tmod_eq_emod_of_nonneg (by omega)]
  omega
theorem byte_take (v q j : Nat) (x : Int) (h : sizeB q = true) (hj : j < q) (hx : x = ((byteOf v j : Nat) : Int)) : ((bytesOf v q).take j).map bv ++ [Value.int .u8 x] = ((bytesOf v q).take (j + 1)).map bv := by
  rw [bytesOf_take v q j h hj, hx]; simp [bv]

end Go.Proofs.YtkkgigdgbiklmaaDoor
