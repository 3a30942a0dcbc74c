/- Words of a memory: what is laid is read again, and all else stays. -/
import Derived.Test.YtmnpakfihfjfiaaPhyR
namespace Go.Proofs.Ytmnpakfihfjfiaa
open Go.RowKit

theorem lw_append : ∀ (a b : List Nat), leNat (a ++ b) = leNat a + 256 ^ a.length * leNat b
  | [], b => by simp [leNat]
  | x :: r, b => by
    simp only [List.cons_append, leNat, lw_append r b, List.length_cons, Nat.pow_succ, Nat.mul_add]
    rw [← Nat.mul_assoc, Nat.mul_comm (256 ^ r.length) 256, Nat.add_assoc]
theorem lw_range (v : Nat) : ∀ n, leNat ((List.range n).map (byteOf v)) = v % 256 ^ n
  | 0 => by simp [leNat, Nat.mod_one]
  | n + 1 => by
    rw [List.range_succ, List.map_append, lw_append, lw_range v n]
    simp only [List.length_map, List.length_range, List.map_cons, List.map_nil, leNat, byteOf]
    rw [Nat.mul_zero, Nat.add_zero, Nat.pow_succ, Nat.mod_mul]
theorem chk8 {n a : Nat} (h : chkE n a 8 = 0) : a % 8 = 0 ∧ a < 4096 * n := by
  obtain ⟨h1, h2⟩ := chk_ok h
  refine ⟨by simpa [alignedB, sizeB] using h1, by omega⟩
theorem chk8_of {n a : Nat} (h1 : a % 8 = 0) (h2 : a < 4096 * n) : chkE n a 8 = 0 := by
  have h3 : alignedB a 8 = true := by simp [alignedB, sizeB, h1]
  unfold chkE
  rw [if_neg (by decide), h3, if_neg (by decide), if_neg (by omega)]
/-- All pages are whole. -/
def Full (S : Nat → List Nat) : Prop := ∀ k, (S k).length = 4096
theorem Full.empty : Full emptyS := fun _ => zero_len
theorem Full.store {S : Nat → List Nat} (h : Full S) (n a : Nat) (s : Int) (v : Nat) : Full (stR n S a s v) := fun k => by
  unfold stR
  split
  · unfold stS updS
    split
    · exact putL_length _ _ _ _
    · exact h k
  · exact h k
theorem ld_same {n a v : Nat} {S : Nat → List Nat} (ha : chkE n a 8 = 0) (hv : v < 18446744073709551616) : ldR n (stR n S a 8 v) a 8 = v := by
  obtain ⟨h1, h2⟩ := chk8 ha
  unfold ldR stR
  rw [if_pos ha, if_pos ha]
  unfold ldV stS updS getV
  rw [if_pos rfl]
  have e : ((putL (S (a / 4096)) (a % 4096) v (8 : Int).toNat).drop ((a % 4096 : Nat) : Int).toNat).take (8 : Int).toNat = (List.range 8).map (byteOf v) := by
    rw [Int.toNat_natCast, show (8 : Int).toNat = 8 from rfl]
    apply list_ext_getD
    · rw [List.length_take, List.length_drop, putL_length, List.length_map, List.length_range]; omega
    · intro i hi
      rw [List.length_take, List.length_drop, putL_length] at hi
      rw [List.getD_eq_getElem?_getD, List.getElem?_take, if_pos (by omega), ← List.getD_eq_getElem?_getD, getD_drop, putL_get _ _ _ _ _ (by omega), if_pos (by omega), List.getD_eq_getElem?_getD, List.getElem?_map, List.getElem?_range (by omega)]
      simp
  rw [e, lw_range]
  exact Nat.mod_eq_of_lt hv
theorem ld_other {n a b v : Nat} {S : Nat → List Nat} (hf : Full S) (hb : b % 8 = 0) (hne : a ≠ b) : ldR n (stR n S a 8 v) b 8 = ldR n S b 8 := by
  unfold ldR
  split
  · rename_i hbk
    unfold stR
    split
    · rename_i ha
      obtain ⟨h1, h2⟩ := chk8 ha
      unfold ldV stS updS
      split
      · rename_i h3
        have e : ((putL (S (a / 4096)) (a % 4096) v (8 : Int).toNat).drop ((b % 4096 : Nat) : Int).toNat).take (8 : Int).toNat = ((S (b / 4096)).drop ((b % 4096 : Nat) : Int).toNat).take (8 : Int).toNat := by
          rw [Int.toNat_natCast, show (8 : Int).toNat = 8 from rfl, h3]
          apply list_ext_getD
          · rw [List.length_take, List.length_drop, putL_length, List.length_take, List.length_drop, hf]
          · intro i hi
            rw [List.length_take, List.length_drop, putL_length] at hi
            rw [List.getD_eq_getElem?_getD, List.getElem?_take, if_pos (by omega), ← List.getD_eq_getElem?_getD, getD_drop, putL_get _ _ _ _ _ (by omega), if_neg (by omega), List.getD_eq_getElem?_getD (l := List.take _ _), List.getElem?_take, if_pos (by omega), ← List.getD_eq_getElem?_getD, getD_drop]
        unfold getV
        rw [e]
      · rfl
    · rfl
  · rfl
theorem ld_empty (n a : Nat) : ldR n emptyS a 8 = 0 := by
  unfold ldR
  split
  · unfold ldV getV
    apply leNat_zero
    intro i
    rw [List.getD_eq_getElem?_getD, List.getElem?_take]
    split
    · rw [← List.getD_eq_getElem?_getD, getD_drop]
      exact zeroL_get _
    · rfl
  · rfl
end Go.Proofs.Ytmnpakfihfjfiaa
