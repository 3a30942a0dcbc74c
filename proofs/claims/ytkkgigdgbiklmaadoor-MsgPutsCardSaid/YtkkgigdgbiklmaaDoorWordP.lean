/- Plain facts on bytes and words: no program in sight. -/
import Derived.Test.YtkkgigdgbiklmaaDoorWordA
import Derived.Test.YtkkgigdgbiklmaaDoorRows
import Derived.WalkKit
import Derived.IntWalk
import Derived.Laws.BitsAllLaws
import Derived.Laws.Bits64b
namespace Go.Proofs.YtkkgigdgbiklmaaDoor
open Go.RowKit

/-- The numbers of bytes, the least one first. -/
def leNat : List Nat → Nat
  | [] => 0
  | x :: r => x + 256 * leNat r

theorem leNat_lt : ∀ (l : List Nat), (∀ i : Nat, l.getD i 0 < 256) → leNat l < 256 ^ l.length
  | [], _ => by simp [leNat]
  | x :: r, h => by
    have h0 := h 0
    have h1 := leNat_lt r (fun i => by have := h (i + 1); simpa using this)
    simp only [leNat, List.length_cons, Nat.pow_succ]
    simp at h0
    omega

theorem getD_drop (l : List Nat) (p i : Nat) : (l.drop p).getD i 0 = l.getD (p + i) 0 := by
  simp [List.getD_eq_getElem?_getD]
theorem getD_take_lt (l : List Nat) (n i : Nat) (h : ∀ i : Nat, l.getD i 0 < 256) : (l.take n).getD i 0 < 256 := by
  by_cases hi : i < n
  · rw [List.getD_eq_getElem?_getD, List.getElem?_take, if_pos hi, ← List.getD_eq_getElem?_getD]; exact h i
  · rw [List.getD_eq_getElem?_getD, List.getElem?_take, if_neg hi]; decide
theorem getD_drop_lt (l : List Nat) (n : Nat) (h : ∀ i : Nat, l.getD i 0 < 256) (i : Nat) : (l.drop n).getD i 0 < 256 := by
  rw [getD_drop]; exact h _

theorem leNat_take_lt (l : List Nat) (n : Nat) (h : ∀ i : Nat, l.getD i 0 < 256) : leNat (l.take n) < 256 ^ n := by
  have h1 := leNat_lt (l.take n) (fun i => getD_take_lt l n i h)
  have h2 : 256 ^ (l.take n).length ≤ 256 ^ n := Nat.pow_le_pow_right (by decide) (by simp; omega)
  omega

theorem or_byte (v b : Nat) (hb : b < 256) : v * 256 ||| b = b + 256 * v := by
  have h := Nat.shiftLeft_add_eq_or_of_lt (b := b) (i := 8) (by simpa using hb) v
  rw [Nat.shiftLeft_eq] at h
  have e : v * 2 ^ 8 = v * 256 := rfl
  rw [e] at h
  omega

theorem u64_or_byte (v b : Nat) (hv : v < 72057594037927936) (hb : b < 256) :
    bits .or .u64 (IntKind.u64.wrap ((v : Int) * 256)) (IntKind.u64.wrap (b : Int)) = ((b + 256 * v : Nat) : Int) := by
  rw [IntWalk.u64_in _ (by omega), IntWalk.u64_in _ (by omega)]
  have e : ((v : Int) * 256) = ((v * 256 : Nat) : Int) := by omega
  rw [e, bits_or_u64_nat _ _ (by omega) (by omega), or_byte v b hb]

theorem leNat_step (l : List Nat) (k n : Nat) (h : k < l.length) : leNat ((l.drop k).take (n + 1)) = l.getD k 0 + 256 * leNat ((l.drop (k + 1)).take n) := by
  rw [List.drop_eq_getElem_cons h, List.take_succ_cons]
  simp [leNat, h]

theorem get_round (l : List Nat) (p q j : Nat) (hl : ∀ i : Nat, l.getD i 0 < 256) (hq : q ≤ 8) (hj : j ≤ q) (h0 : 1 ≤ j) (hpq : p + q ≤ l.length) :
    bits .or .u64 (IntKind.u64.wrap (((leNat ((l.drop (p + j)).take (q - j)) : Nat) : Int) * 256)) (IntKind.u64.wrap ((l[p + (j - 1)]?.getD 0 : Nat) : Int)) =
      ((leNat (((l.drop p).drop (j - 1)).take (q - (j - 1))) : Nat) : Int) := by
  have h1 := leNat_take_lt (l.drop (p + j)) (q - j) (getD_drop_lt l _ hl)
  have h2 : 256 ^ (q - j) ≤ 256 ^ 7 := Nat.pow_le_pow_right (by decide) (by omega)
  have h3 := hl (p + (j - 1))
  rw [List.getD_eq_getElem?_getD] at h3
  rw [u64_or_byte _ _ (by omega) h3, List.drop_drop, show q - (j - 1) = (q - j) + 1 by omega, leNat_step l _ _ (by omega), List.getD_eq_getElem?_getD, show p + (j - 1) + 1 = p + j by omega]

theorem leNat_snoc : ∀ (l : List Nat) (j : Nat), j < l.length → leNat (l.take (j + 1)) = leNat (l.take j) + 256 ^ j * l.getD j 0
  | [], j, h => by simp at h
  | x :: r, 0, _ => by simp [leNat]
  | x :: r, j + 1, h => by
    have ih := leNat_snoc r j (by simpa using h)
    simp only [List.take_succ_cons, leNat, List.getD_cons_succ] at *
    rw [ih, Nat.mul_add, ← Nat.mul_assoc, Nat.pow_succ, Nat.mul_comm (256 ^ j) 256, Nat.add_assoc]

theorem rget_round1 (j : Nat) : IntKind.u64.wrap ((256 : Int) ^ j % 18446744073709551616 * 256) = ((256 ^ (j + 1) % 18446744073709551616 : Nat) : Int) := by
  rw [IntKind.wrap_u64, Int.natCast_emod, Int.natCast_pow, Int.pow_succ]
  have e : ((256 : Nat) : Int) = 256 := rfl
  rw [e]
  generalize (256 : Int) ^ j = P
  omega

theorem rget_round2 (l : List Nat) (p q j : Nat) (hl : ∀ i : Nat, l.getD i 0 < 256) (hq : q ≤ 8) (hj : j < q) (hpq : p + q ≤ l.length) :
    IntKind.u64.wrap ((leNat ((l.drop p).take j) : Nat) + IntKind.u64.wrap (IntKind.u64.wrap ((l[p + j]?.getD 0 : Nat) : Int) * ((256 : Int) ^ j % 18446744073709551616))) = ((leNat ((l.drop p).take (j + 1)) : Nat) : Int) := by
  have h1 := leNat_take_lt (l.drop p) j (getD_drop_lt l _ hl)
  have h2 : 256 ^ j ≤ 256 ^ 7 := Nat.pow_le_pow_right (by decide) (by omega)
  have h3 := hl (p + j)
  rw [leNat_snoc _ _ (by simp; omega), getD_drop]
  rw [List.getD_eq_getElem?_getD] at h3 ⊢
  have e : ((256 : Int) ^ j % 18446744073709551616) = ((256 ^ j : Nat) : Int) := by
    have : ((256 ^ j : Nat) : Int) = (256 : Int) ^ j := by simp
    rw [← this]; omega
  rw [e]
  generalize hx : leNat ((l.drop p).take j) = x at *
  generalize hb : l[p + j]?.getD 0 = b at *
  generalize hP : 256 ^ j = P at *
  rw [IntWalk.u64_in (b : Int) (by omega)]
  have h4 : b * P ≤ 255 * P := Nat.mul_le_mul_right P (by omega)
  have e2 : (b : Int) * (P : Int) = ((b * P : Nat) : Int) := by simp
  rw [e2, Nat.mul_comm P b]
  generalize b * P = bp at *
  rw [IntWalk.u64_in (bp : Int) (by omega), IntWalk.u64_in _ (by omega)]
  omega

/-! Bits. -/
theorem or_full (h j : Nat) (hh : h < 2 ^ j) : h ||| (2 ^ j - 1) = 2 ^ j - 1 := by
  apply Nat.eq_of_testBit_eq
  intro i
  rw [Nat.testBit_or, Nat.testBit_two_pow_sub_one]
  by_cases hi : i < j
  · simp [hi]
  · have : h.testBit i = false := Nat.testBit_lt_two_pow (Nat.lt_of_lt_of_le hh (Nat.pow_le_pow_right (by decide) (by omega)))
    simp [hi, this]
theorem or_high (v k j : Nat) (hv : v < 2 ^ (k + j)) : v ||| (2 ^ (k + j) - 2 ^ k) = v % 2 ^ k + (2 ^ (k + j) - 2 ^ k) := by
  have e : 2 ^ (k + j) - 2 ^ k = 2 ^ k * (2 ^ j - 1) := by rw [Nat.pow_add, Nat.mul_sub, Nat.mul_one]
  rw [e]
  have h1 : (v ||| 2 ^ k * (2 ^ j - 1)) % 2 ^ k = v % 2 ^ k := by
    rw [Nat.or_mod_two_pow, Nat.mul_mod_right, Nat.or_zero]
  have h2 : (v ||| 2 ^ k * (2 ^ j - 1)) / 2 ^ k = 2 ^ j - 1 := by
    rw [Nat.or_div_two_pow, Nat.mul_div_cancel_left _ (Nat.two_pow_pos k)]
    exact or_full _ _ (Nat.div_lt_of_lt_mul (by rw [← Nat.pow_add]; exact hv))
  have h3 := Nat.div_add_mod (v ||| 2 ^ k * (2 ^ j - 1)) (2 ^ k)
  rw [h1, h2] at h3
  omega
theorem and_pow (v k : Nat) : v &&& 2 ^ k = v / 2 ^ k % 2 * 2 ^ k := by
  apply Nat.eq_of_testBit_eq
  intro i
  rw [Nat.testBit_and, Nat.testBit_two_pow, Nat.mul_comm, Nat.testBit_two_pow_mul]
  by_cases h : k = i
  · subst h
    rw [Nat.testBit_eq_decide_div_mod_eq]
    rcases Nat.mod_two_eq_zero_or_one (v / 2 ^ k) with h | h <;> simp [h]
  · by_cases hi : k ≤ i
    · have : (v / 2 ^ k % 2).testBit (i - k) = false := Nat.testBit_lt_two_pow (Nat.lt_of_lt_of_le (Nat.mod_lt _ (by decide)) (by
        have : 2 ^ 1 ≤ 2 ^ (i - k) := Nat.pow_le_pow_right (by decide) (by omega)
        simpa using this))
      simp [h, hi, this]
    · simp [h, hi]

/-- The mask of a size. -/
def maskV (s : Int) : Nat := if s = 1 then 255 else if s = 2 then 65535 else if s = 4 then 4294967295 else 18446744073709551615
def cutV (v : Nat) (s : Int) : Nat := if s = 1 then v % 256 else if s = 2 then v % 65536 else if s = 4 then v % 4294967296 else v
def signV (v : Nat) (s : Int) : Nat :=
  if s = 1 then (if v % 256 < 128 then v % 256 else v % 256 + 18446744073709551360)
  else if s = 2 then (if v % 65536 < 32768 then v % 65536 else v % 65536 + 18446744073709486080)
  else if s = 4 then (if v % 4294967296 < 2147483648 then v % 4294967296 else v % 4294967296 + 18446744069414584320)
  else v
theorem cutV_lt (v : Nat) (s : Int) (h : v < 18446744073709551616) : cutV v s < 18446744073709551616 := by
  unfold cutV; repeat' split
  all_goals omega
theorem signV_lt (v : Nat) (s : Int) (h : v < 18446744073709551616) : signV v s < 18446744073709551616 := by
  unfold signV; repeat' split
  all_goals omega
theorem maskV_lt (s : Int) : maskV s < 18446744073709551616 := by
  unfold maskV; repeat' split
  all_goals omega
theorem cut_and (v : Nat) (s : Int) (h : v < 18446744073709551616) : v &&& maskV s = cutV v s := by
  unfold maskV cutV
  repeat' split
  · exact Nat.and_two_pow_sub_one_eq_mod v 8
  · exact Nat.and_two_pow_sub_one_eq_mod v 16
  · exact Nat.and_two_pow_sub_one_eq_mod v 32
  · have := Nat.and_two_pow_sub_one_eq_mod v 64
    rw [show (2 ^ 64 - 1 : Nat) = 18446744073709551615 from rfl] at this
    rw [this]; exact Nat.mod_eq_of_lt h

def signBit (s : Int) : Nat := if s = 1 then 128 else if s = 2 then 32768 else if s = 4 then 2147483648 else 9223372036854775808
theorem xor_mask (s : Int) : maskV s ^^^ maskV s / 2 = signBit s := by
  unfold maskV signBit
  repeat' split
  all_goals decide
theorem sign_off (v : Nat) (s : Int) (h : v < 18446744073709551616) (hb : v &&& signBit s = 0) : v &&& maskV s = signV v s := by
  rw [cut_and v s h]
  unfold signBit at hb
  unfold cutV signV
  by_cases h1 : s = 1
  · simp only [h1, ite_true] at *
    have e := and_pow v 7
    simp at e; rw [e] at hb
    rw [if_pos]; omega
  · by_cases h2 : s = 2
    · simp only [h2, ite_true] at *
      have e := and_pow v 15
      simp at e; simp at hb; rw [e] at hb
      simp; omega
    · by_cases h4 : s = 4
      · simp only [h4, ite_true] at *
        have e := and_pow v 31
        simp at e; simp at hb; rw [e] at hb
        simp; omega
      · simp [h1, h2, h4]
theorem sign_on (v : Nat) (s : Int) (h : v < 18446744073709551616) (hb : v &&& signBit s ≠ 0) : v ||| (18446744073709551615 - maskV s) = signV v s := by
  unfold signBit at hb
  unfold maskV signV
  by_cases h1 : s = 1
  · simp only [h1, ite_true] at *
    have e := and_pow v 7
    simp at e; rw [e] at hb
    have o := or_high v 8 56 h
    simp at o ⊢; rw [o, if_neg]; omega
  · by_cases h2 : s = 2
    · simp only [h2, ite_true] at *
      have e := and_pow v 15
      simp at e; simp at hb; rw [e] at hb
      have o := or_high v 16 48 h
      simp at o ⊢; rw [o, if_neg]; omega
    · by_cases h4 : s = 4
      · simp only [h4, ite_true] at *
        have e := and_pow v 31
        simp at e; simp at hb; rw [e] at hb
        have o := or_high v 32 32 h
        simp at o ⊢; rw [o, if_neg]; omega
      · simp [h1, h2, h4]
end Go.Proofs.YtkkgigdgbiklmaaDoor
