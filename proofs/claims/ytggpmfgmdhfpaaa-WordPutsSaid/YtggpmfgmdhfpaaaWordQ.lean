/- Plain: what the bytes of a word say. -/
import Derived.Test.YtggpmfgmdhfpaaaWordF
namespace Go.Proofs.Ytggpmfgmdhfpaaa
open Go.RowKit

theorem leNat_append : ∀ (a b : List Nat), leNat (a ++ b) = leNat a + 256 ^ a.length * leNat b
  | [], b => by simp [leNat]
  | x :: r, b => by
    simp only [List.cons_append, leNat, leNat_append r b, List.length_cons, Nat.pow_succ, Nat.mul_add]
    rw [← Nat.mul_assoc, Nat.mul_comm (256 ^ r.length) 256, Nat.add_assoc]
theorem leNat_range (v : Nat) : ∀ n, leNat ((List.range n).map (byteOf v)) = v % 256 ^ n
  | 0 => by simp [leNat, Nat.mod_one]
  | n + 1 => by
    rw [List.range_succ, List.map_append, leNat_append, leNat_range v n]
    simp only [List.length_map, List.length_range, List.map_cons, List.map_nil, leNat, byteOf]
    rw [Nat.mul_zero, Nat.add_zero, Nat.pow_succ, Nat.mod_mul]
theorem leNat_bytesOf (v : Nat) (s : Int) (hv : v < 18446744073709551616) (h : sizeB s = true) : leNat (bytesOf v s) = cutV v s := by
  unfold bytesOf
  rw [if_pos h, leNat_range]
  rcases size_cases h with rfl | rfl | rfl | rfl
  · rfl
  · rfl
  · rfl
  · exact Nat.mod_eq_of_lt hv
/-- The sign that the reference fills in. -/
def fillV (v : Nat) (s : Int) : Nat := if byteOf v (s.toNat - 1) > 127 then 255 else 0
def signL (v : Nat) (s : Int) : List Nat := bytesOf v s ++ List.replicate (8 - s.toNat) (fillV v s)
theorem signL_lt (v : Nat) (s : Int) (i : Nat) : (signL v s).getD i 0 < 256 := by
  unfold signL
  by_cases hi : i < (bytesOf v s).length
  · rw [List.getD_eq_getElem?_getD, List.getElem?_append_left hi, ← List.getD_eq_getElem?_getD]; exact bytesOf_lt v s i
  · rw [List.getD_eq_getElem?_getD, List.getElem?_append_right (by omega), List.getElem?_replicate]
    split
    · simp only [Option.getD_some, fillV]; split <;> decide
    · decide
theorem leNat_signL (v : Nat) (s : Int) (hv : v < 18446744073709551616) (h : sizeB s = true) : leNat (signL v s) = signV v s := by
  unfold signL
  rw [leNat_append, leNat_bytesOf v s hv h]
  rcases size_cases h with rfl | rfl | rfl | rfl
  · rw [show (bytesOf v 1).length = 1 from bytesOf_length v 1 h]
    show v % 256 + 256 ^ 1 * leNat (List.replicate 7 (if v / 256 ^ 0 % 256 > 127 then 255 else 0)) = (if v % 256 < 128 then v % 256 else v % 256 + 18446744073709551360)
    simp only [Nat.reducePow, Nat.div_one]
    by_cases hh : v % 256 > 127
    · rw [if_pos hh, show leNat (List.replicate 7 255) = 72057594037927935 from rfl, if_neg (by omega)]
    · rw [if_neg hh, show leNat (List.replicate 7 0) = 0 from rfl, if_pos (by omega), Nat.mul_zero, Nat.add_zero]
  · rw [show (bytesOf v 2).length = 2 from bytesOf_length v 2 h]
    show v % 65536 + 256 ^ 2 * leNat (List.replicate 6 (if v / 256 ^ 1 % 256 > 127 then 255 else 0)) = (if v % 65536 < 32768 then v % 65536 else v % 65536 + 18446744073709486080)
    simp only [Nat.reducePow]
    by_cases hh : v / 256 % 256 > 127
    · rw [if_pos hh, show leNat (List.replicate 6 255) = 281474976710655 from rfl, if_neg (by omega)]
    · rw [if_neg hh, show leNat (List.replicate 6 0) = 0 from rfl, if_pos (by omega), Nat.mul_zero, Nat.add_zero]
  · rw [show (bytesOf v 4).length = 4 from bytesOf_length v 4 h]
    show v % 4294967296 + 256 ^ 4 * leNat (List.replicate 4 (if v / 256 ^ 3 % 256 > 127 then 255 else 0)) = (if v % 4294967296 < 2147483648 then v % 4294967296 else v % 4294967296 + 18446744069414584320)
    simp only [Nat.reducePow]
    by_cases hh : v / 16777216 % 256 > 127
    · rw [if_pos hh, show leNat (List.replicate 4 255) = 4294967295 from rfl, if_neg (by omega)]
    · rw [if_neg hh, show leNat (List.replicate 4 0) = 0 from rfl, if_pos (by omega), Nat.mul_zero, Nat.add_zero]
  · show v + _ * 0 = v
    rw [Nat.mul_zero, Nat.add_zero]
theorem getV_all (l : List Nat) (s : Int) (h : l.length = s.toNat) : getV l 0 s = leNat l := by
  unfold getV
  simp [List.take_of_length_le (Nat.le_of_eq h)]
end Go.Proofs.Ytggpmfgmdhfpaaa
