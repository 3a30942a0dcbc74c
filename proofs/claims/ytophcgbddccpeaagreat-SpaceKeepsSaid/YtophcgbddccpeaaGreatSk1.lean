/- Merged texts: WordA, WordP, WordB, WordD, Byte, WordE, WordF, PhyA, PhyB, PhyC. -/
import Derived.Test.YtophcgbddccpeaaGreatPlanI
import Derived.Test.YtophcgbddccpeaaGreatRows
import Derived.WalkKit
import Derived.WalkSpells
import Derived.WalkLawsBesides
import Derived.Handy
import Derived.BigQuiet
import Derived.Lib.Hide
import Derived.IntWalk
import Derived.Laws.BitsAllLaws
import Derived.Laws.Bits64b
import Derived.Laws.MakeOwn
import Derived.Test.YtophcgbddccpeaaGreatReads
import Derived.Test.YtophcgbddccpeaaGreatMem
import Derived.Laws.BytesArg
import Derived.OpenShut
import Derived.Laws.Cover3
import Derived.Test.YtophcgbddccpeaaGreatWide
/- Contracts of the package word: Size, there. -/
namespace Go.Proofs.YtophcgbddccpeaaGreat
open Go.RowKit

def sizeB (n : Int) : Bool := n == 1 || n == 2 || n == 4 || n == 8

theorem size_cases {n : Int} (h : sizeB n = true) : n = 1 ∨ n = 2 ∨ n = 4 ∨ n = 8 := by
  simp [sizeB] at h; omega
theorem size_not {n : Int} (h : sizeB n = false) : n ≠ 1 ∧ n ≠ 2 ∧ n ≠ 4 ∧ n ≠ 8 := by
  simp [sizeB] at h; omega

theorem size_any (n : Int) (w : World) :
    Calls Tryz.prog 75 #[.int .i64 n] w fun e w' => e = .returned (.bool (sizeB n)) ∧ w = w' := by
  unfold sizeB
  go_enter Tryz.func75, Tryz.ntmps75
  go_wp2
  all_goals (go_ret; refine ⟨?_, rfl⟩; first | rfl | (simp [*]; done) | (simp [*]; omega))

def thereB (n a s : Int) : Bool := sizeB s && (decide (0 ≤ a) && (decide (a ≤ n) && decide (s ≤ n - a)))

theorem there_any (A : Option Addr) (n c : Nat) (a s : Int) (w : World) (hn : n ≤ 9223372036854775807) :
    Calls Tryz.prog 84 #[.slice A n c, .int .i64 a, .int .i64 s] w fun e w' => e = .returned (.bool (thereB n a s)) ∧ w = w' := by
  unfold thereB
  rcases Bool.eq_false_or_eq_true (sizeB s) with h1 | h1
  all_goals
    have H := Lib.hid h1
    clear h1
    go_enter Tryz.func84, Tryz.ntmps84
    go_wp2_with (go_at_call 75; refine (size_any _ _).mono ?_; rintro e w' ⟨rfl, rfl⟩; rw [H.out])
    all_goals (go_ret; refine ⟨?_, rfl⟩; simp only [H.out]; first | rfl | (simp [*]; done) | (simp [*]; omega))
end Go.Proofs.YtophcgbddccpeaaGreat

/- Plain facts on bytes and words: no program in sight. -/
namespace Go.Proofs.YtophcgbddccpeaaGreat
open Go.RowKit

/-- The numbers of bytes, the least one first. -/
def leNat : List Nat → Nat
  | [] => 0
  | x :: r => x + 256 * leNat r

theorem leNat_lt : ∀ (l : List Nat), (∀ i : Nat, l.getD i 0 < 256) → leNat l < 256 ^ l.length
  | [], _ => by simp [leNat]
  | x :: r, h => by
    have h0 := h 0
    have h1 := leNat_lt r (fun i => by have := h (i + 1); simpa using this)
    simp only [leNat, List.length_cons, Nat.pow_succ]
    simp at h0
    omega

theorem getD_drop (l : List Nat) (p i : Nat) : (l.drop p).getD i 0 = l.getD (p + i) 0 := by
  simp [List.getD_eq_getElem?_getD]
theorem getD_take_lt (l : List Nat) (n i : Nat) (h : ∀ i : Nat, l.getD i 0 < 256) : (l.take n).getD i 0 < 256 := by
  by_cases hi : i < n
  · rw [List.getD_eq_getElem?_getD, List.getElem?_take, if_pos hi, ← List.getD_eq_getElem?_getD]; exact h i
  · rw [List.getD_eq_getElem?_getD, List.getElem?_take, if_neg hi]; decide
theorem getD_drop_lt (l : List Nat) (n : Nat) (h : ∀ i : Nat, l.getD i 0 < 256) (i : Nat) : (l.drop n).getD i 0 < 256 := by
  rw [getD_drop]; exact h _

theorem leNat_take_lt (l : List Nat) (n : Nat) (h : ∀ i : Nat, l.getD i 0 < 256) : leNat (l.take n) < 256 ^ n := by
  have h1 := leNat_lt (l.take n) (fun i => getD_take_lt l n i h)
  have h2 : 256 ^ (l.take n).length ≤ 256 ^ n := Nat.pow_le_pow_right (by decide) (by simp; omega)
  omega

theorem or_byte (v b : Nat) (hb : b < 256) : v * 256 ||| b = b + 256 * v := by
  have h := Nat.shiftLeft_add_eq_or_of_lt (b := b) (i := 8) (by simpa using hb) v
  rw [Nat.shiftLeft_eq] at h
  have e : v * 2 ^ 8 = v * 256 := rfl
  rw [e] at h
  omega

theorem u64_or_byte (v b : Nat) (hv : v < 72057594037927936) (hb : b < 256) :
    bits .or .u64 (IntKind.u64.wrap ((v : Int) * 256)) (IntKind.u64.wrap (b : Int)) = ((b + 256 * v : Nat) : Int) := by
  rw [IntWalk.u64_in _ (by omega), IntWalk.u64_in _ (by omega)]
  have e : ((v : Int) * 256) = ((v * 256 : Nat) : Int) := by omega
  rw [e, bits_or_u64_nat _ _ (by omega) (by omega), or_byte v b hb]

theorem leNat_step (l : List Nat) (k n : Nat) (h : k < l.length) : leNat ((l.drop k).take (n + 1)) = l.getD k 0 + 256 * leNat ((l.drop (k + 1)).take n) := by
  rw [List.drop_eq_getElem_cons h, List.take_succ_cons]
  simp [leNat, h]

theorem get_round (l : List Nat) (p q j : Nat) (hl : ∀ i : Nat, l.getD i 0 < 256) (hq : q ≤ 8) (hj : j ≤ q) (h0 : 1 ≤ j) (hpq : p + q ≤ l.length) :
    bits .or .u64 (IntKind.u64.wrap (((leNat ((l.drop (p + j)).take (q - j)) : Nat) : Int) * 256)) (IntKind.u64.wrap ((l[p + (j - 1)]?.getD 0 : Nat) : Int)) =
      ((leNat (((l.drop p).drop (j - 1)).take (q - (j - 1))) : Nat) : Int) := by
  have h1 := leNat_take_lt (l.drop (p + j)) (q - j) (getD_drop_lt l _ hl)
  have h2 : 256 ^ (q - j) ≤ 256 ^ 7 := Nat.pow_le_pow_right (by decide) (by omega)
  have h3 := hl (p + (j - 1))
  rw [List.getD_eq_getElem?_getD] at h3
  rw [u64_or_byte _ _ (by omega) h3, List.drop_drop, show q - (j - 1) = (q - j) + 1 by omega, leNat_step l _ _ (by omega), List.getD_eq_getElem?_getD, show p + (j - 1) + 1 = p + j by omega]

theorem leNat_snoc : ∀ (l : List Nat) (j : Nat), j < l.length → leNat (l.take (j + 1)) = leNat (l.take j) + 256 ^ j * l.getD j 0
  | [], j, h => by simp at h
  | x :: r, 0, _ => by simp [leNat]
  | x :: r, j + 1, h => by
    have ih := leNat_snoc r j (by simpa using h)
    simp only [List.take_succ_cons, leNat, List.getD_cons_succ] at *
    rw [ih, Nat.mul_add, ← Nat.mul_assoc, Nat.pow_succ, Nat.mul_comm (256 ^ j) 256, Nat.add_assoc]

theorem rget_round1 (j : Nat) : IntKind.u64.wrap ((256 : Int) ^ j % 18446744073709551616 * 256) = ((256 ^ (j + 1) % 18446744073709551616 : Nat) : Int) := by
  rw [IntKind.wrap_u64, Int.natCast_emod, Int.natCast_pow, Int.pow_succ]
  have e : ((256 : Nat) : Int) = 256 := rfl
  rw [e]
  generalize (256 : Int) ^ j = P
  omega

theorem rget_round2 (l : List Nat) (p q j : Nat) (hl : ∀ i : Nat, l.getD i 0 < 256) (hq : q ≤ 8) (hj : j < q) (hpq : p + q ≤ l.length) :
    IntKind.u64.wrap ((leNat ((l.drop p).take j) : Nat) + IntKind.u64.wrap (IntKind.u64.wrap ((l[p + j]?.getD 0 : Nat) : Int) * ((256 : Int) ^ j % 18446744073709551616))) = ((leNat ((l.drop p).take (j + 1)) : Nat) : Int) := by
  have h1 := leNat_take_lt (l.drop p) j (getD_drop_lt l _ hl)
  have h2 : 256 ^ j ≤ 256 ^ 7 := Nat.pow_le_pow_right (by decide) (by omega)
  have h3 := hl (p + j)
  rw [leNat_snoc _ _ (by simp; omega), getD_drop]
  rw [List.getD_eq_getElem?_getD] at h3 ⊢
  have e : ((256 : Int) ^ j % 18446744073709551616) = ((256 ^ j : Nat) : Int) := by
    have : ((256 ^ j : Nat) : Int) = (256 : Int) ^ j := by simp
    rw [← this]; omega
  rw [e]
  generalize hx : leNat ((l.drop p).take j) = x at *
  generalize hb : l[p + j]?.getD 0 = b at *
  generalize hP : 256 ^ j = P at *
  rw [IntWalk.u64_in (b : Int) (by omega)]
  have h4 : b * P ≤ 255 * P := Nat.mul_le_mul_right P (by omega)
  have e2 : (b : Int) * (P : Int) = ((b * P : Nat) : Int) := by simp
  rw [e2, Nat.mul_comm P b]
  generalize b * P = bp at *
  rw [IntWalk.u64_in (bp : Int) (by omega), IntWalk.u64_in _ (by omega)]
  omega

/-! Bits. -/
theorem or_full (h j : Nat) (hh : h < 2 ^ j) : h ||| (2 ^ j - 1) = 2 ^ j - 1 := by
  apply Nat.eq_of_testBit_eq
  intro i
  rw [Nat.testBit_or, Nat.testBit_two_pow_sub_one]
  by_cases hi : i < j
  · simp [hi]
  · have : h.testBit i = false := Nat.testBit_lt_two_pow (Nat.lt_of_lt_of_le hh (Nat.pow_le_pow_right (by decide) (by omega)))
    simp [hi, this]
theorem or_high (v k j : Nat) (hv : v < 2 ^ (k + j)) : v ||| (2 ^ (k + j) - 2 ^ k) = v % 2 ^ k + (2 ^ (k + j) - 2 ^ k) := by
  have e : 2 ^ (k + j) - 2 ^ k = 2 ^ k * (2 ^ j - 1) := by rw [Nat.pow_add, Nat.mul_sub, Nat.mul_one]
  rw [e]
  have h1 : (v ||| 2 ^ k * (2 ^ j - 1)) % 2 ^ k = v % 2 ^ k := by
    rw [Nat.or_mod_two_pow, Nat.mul_mod_right, Nat.or_zero]
  have h2 : (v ||| 2 ^ k * (2 ^ j - 1)) / 2 ^ k = 2 ^ j - 1 := by
    rw [Nat.or_div_two_pow, Nat.mul_div_cancel_left _ (Nat.two_pow_pos k)]
    exact or_full _ _ (Nat.div_lt_of_lt_mul (by rw [← Nat.pow_add]; exact hv))
  have h3 := Nat.div_add_mod (v ||| 2 ^ k * (2 ^ j - 1)) (2 ^ k)
  rw [h1, h2] at h3
  omega
theorem and_pow (v k : Nat) : v &&& 2 ^ k = v / 2 ^ k % 2 * 2 ^ k := by
  apply Nat.eq_of_testBit_eq
  intro i
  rw [Nat.testBit_and, Nat.testBit_two_pow, Nat.mul_comm, Nat.testBit_two_pow_mul]
  by_cases h : k = i
  · subst h
    rw [Nat.testBit_eq_decide_div_mod_eq]
    rcases Nat.mod_two_eq_zero_or_one (v / 2 ^ k) with h | h <;> simp [h]
  · by_cases hi : k ≤ i
    · have : (v / 2 ^ k % 2).testBit (i - k) = false := Nat.testBit_lt_two_pow (Nat.lt_of_lt_of_le (Nat.mod_lt _ (by decide)) (by
        have : 2 ^ 1 ≤ 2 ^ (i - k) := Nat.pow_le_pow_right (by decide) (by omega)
        simpa using this))
      simp [h, hi, this]
    · simp [h, hi]

/-- The mask of a size. -/
def maskV (s : Int) : Nat := if s = 1 then 255 else if s = 2 then 65535 else if s = 4 then 4294967295 else 18446744073709551615
def cutV (v : Nat) (s : Int) : Nat := if s = 1 then v % 256 else if s = 2 then v % 65536 else if s = 4 then v % 4294967296 else v
def signV (v : Nat) (s : Int) : Nat :=
  if s = 1 then (if v % 256 < 128 then v % 256 else v % 256 + 18446744073709551360)
  else if s = 2 then (if v % 65536 < 32768 then v % 65536 else v % 65536 + 18446744073709486080)
  else if s = 4 then (if v % 4294967296 < 2147483648 then v % 4294967296 else v % 4294967296 + 18446744069414584320)
  else v
theorem cutV_lt (v : Nat) (s : Int) (h : v < 18446744073709551616) : cutV v s < 18446744073709551616 := by
  unfold cutV; repeat' split
  all_goals omega
theorem signV_lt (v : Nat) (s : Int) (h : v < 18446744073709551616) : signV v s < 18446744073709551616 := by
  unfold signV; repeat' split
  all_goals omega
theorem maskV_lt (s : Int) : maskV s < 18446744073709551616 := by
  unfold maskV; repeat' split
  all_goals omega
theorem cut_and (v : Nat) (s : Int) (h : v < 18446744073709551616) : v &&& maskV s = cutV v s := by
  unfold maskV cutV
  repeat' split
  · exact Nat.and_two_pow_sub_one_eq_mod v 8
  · exact Nat.and_two_pow_sub_one_eq_mod v 16
  · exact Nat.and_two_pow_sub_one_eq_mod v 32
  · have := Nat.and_two_pow_sub_one_eq_mod v 64
    rw [show (2 ^ 64 - 1 : Nat) = 18446744073709551615 from rfl] at this
    rw [this]; exact Nat.mod_eq_of_lt h

def signBit (s : Int) : Nat := if s = 1 then 128 else if s = 2 then 32768 else if s = 4 then 2147483648 else 9223372036854775808
theorem xor_mask (s : Int) : maskV s ^^^ maskV s / 2 = signBit s := by
  unfold maskV signBit
  repeat' split
  all_goals decide
theorem sign_off (v : Nat) (s : Int) (h : v < 18446744073709551616) (hb : v &&& signBit s = 0) : v &&& maskV s = signV v s := by
  rw [cut_and v s h]
  unfold signBit at hb
  unfold cutV signV
  by_cases h1 : s = 1
  · simp only [h1, ite_true] at *
    have e := and_pow v 7
    simp at e; rw [e] at hb
    rw [if_pos]; omega
  · by_cases h2 : s = 2
    · simp only [h2, ite_true] at *
      have e := and_pow v 15
      simp at e; simp at hb; rw [e] at hb
      simp; omega
    · by_cases h4 : s = 4
      · simp only [h4, ite_true] at *
        have e := and_pow v 31
        simp at e; simp at hb; rw [e] at hb
        simp; omega
      · simp [h1, h2, h4]
theorem sign_on (v : Nat) (s : Int) (h : v < 18446744073709551616) (hb : v &&& signBit s ≠ 0) : v ||| (18446744073709551615 - maskV s) = signV v s := by
  unfold signBit at hb
  unfold maskV signV
  by_cases h1 : s = 1
  · simp only [h1, ite_true] at *
    have e := and_pow v 7
    simp at e; rw [e] at hb
    have o := or_high v 8 56 h
    simp at o ⊢; rw [o, if_neg]; omega
  · by_cases h2 : s = 2
    · simp only [h2, ite_true] at *
      have e := and_pow v 15
      simp at e; simp at hb; rw [e] at hb
      have o := or_high v 16 48 h
      simp at o ⊢; rw [o, if_neg]; omega
    · by_cases h4 : s = 4
      · simp only [h4, ite_true] at *
        have e := and_pow v 31
        simp at e; simp at hb; rw [e] at hb
        have o := or_high v 32 32 h
        simp at o ⊢; rw [o, if_neg]; omega
      · simp [h1, h2, h4]
end Go.Proofs.YtophcgbddccpeaaGreat

/- Contract of word.Get. -/
namespace Go.Proofs.YtophcgbddccpeaaGreat
open Go.RowKit

/-- A slice reads as bytes. -/
def Bts (w : World) (A : Option Addr) (l : List Nat) : Prop :=
  (∀ i, l.getD i 0 < 256) ∧ (0 < l.length → ∃ b o, A = some ⟨b, o, none⟩ ∧ ∀ i, i < l.length → w.cell? ⟨b, o + i, none⟩ = some (.int .u8 ((l.getD i 0 : Nat) : Int)))

def getV (l : List Nat) (a s : Int) : Nat := leNat ((l.drop a.toNat).take s.toNat)

theorem there_of {n a s : Int} (h : thereB n a s = true) : sizeB s = true ∧ 0 ≤ a ∧ a ≤ n ∧ s ≤ n - a := by
  simp [thereB] at h; exact ⟨h.1, h.2.1, h.2.2.1, h.2.2.2⟩

theorem get_yes (A : Option Addr) (l : List Nat) (c : Nat) (a s : Int) (w : World) (hn : l.length ≤ 9223372036854775807) (hB : Bts w A l) (ht : thereB l.length a s = true) :
    Calls Tryz.prog 102 #[.slice A l.length c, .int .i64 a, .int .i64 s] w fun e w' => e = .returned (.tuple #[.int .u64 (getV l a s), .bool true]) ∧ w = w' := by
  have HT := Lib.hid ht
  obtain ⟨h1, h2, h3, h4⟩ := there_of ht
  clear ht
  have h5 := size_cases h1
  clear h1
  obtain ⟨p, rfl⟩ := Int.eq_ofNat_of_zero_le h2
  obtain ⟨q, rfl⟩ := Int.eq_ofNat_of_zero_le (show 0 ≤ s by omega)
  have hq : q ≤ 8 := by omega
  have hq1 : 1 ≤ q := by omega
  have hpq : p + q ≤ l.length := by omega
  clear h2 h3 h4 h5
  obtain ⟨hlt, hB2⟩ := hB
  obtain ⟨b, o, rfl, hc⟩ := hB2 (by omega)
  have HC := Lib.hid hc
  have HL := Lib.hid hlt
  clear hc hB2 hlt
  go_enter Tryz.func102, Tryz.ntmps102
  go_wp2_with (go_at_call 84; refine (there_any _ _ _ _ _ _ hn).mono ?_; rintro e w' ⟨rfl, rfl⟩; rw [HT.out])
  go_loop [8, 9] (fun v i => ∃ j : Nat, j ≤ q ∧ i = .int .i64 ((j : Int) - 1) ∧ v = .int .u64 (leNat (((l.drop p).drop j).take (q - j)) : Nat)) (fun _ i => (intOf i + 1).toNat)
  case atStart => exact ⟨q, Nat.le_refl _, rfl, by simp [leNat]⟩
  case round =>
    obtain ⟨j, hj, rfl, rfl⟩ := hrel
    by_cases h0 : 1 ≤ j
    · have hcell := HC.out (p + (j - 1)) (by omega)
      have e1 : ((j : Int) - 1) = ((j - 1 : Nat) : Int) := by omega
      go_wp2
      exact ⟨⟨j - 1, by omega, rfl, by rw [get_round l p q j HL.out hq hj h0 hpq]⟩, by simp [intOf]; omega⟩
    · obtain rfl : j = 0 := by omega
      go_wp2
      go_ret2
      exact ⟨by simp [getV], rfl⟩

theorem get_no (A : Option Addr) (n : Nat) (c : Nat) (a s : Int) (w : World) (hn : n ≤ 9223372036854775807) (ht : thereB n a s = false) :
    Calls Tryz.prog 102 #[.slice A n c, .int .i64 a, .int .i64 s] w fun e w' => e = .returned (.tuple #[.int .u64 0, .bool false]) ∧ w = w' := by
  have HT := Lib.hid ht
  clear ht
  go_enter Tryz.func102, Tryz.ntmps102
  go_wp2_with (go_at_call 84; refine (there_any _ _ _ _ _ _ hn).mono ?_; rintro e w' ⟨rfl, rfl⟩; rw [HT.out])
  go_ret2
  exact ⟨rfl, rfl⟩
end Go.Proofs.YtophcgbddccpeaaGreat

/- Contracts of word.Put and word.Bytes. -/
namespace Go.Proofs.YtophcgbddccpeaaGreat
open Go.RowKit

def byteOf (v i : Nat) : Nat := v / 256 ^ i % 256

structure Puts (w w' : World) (b k : Nat) (v n : Nat) : Prop where
  grown : w.grownBy w' (some b)
  size : w'.heap.size = w.heap.size
  new : ∀ i, i < n → w'.cell? ⟨b, k + i, none⟩ = some (.int .u8 ((byteOf v i : Nat) : Int))
  old : ∀ p : Addr, (p.block ≠ b ∨ p.off < k ∨ k + n ≤ p.off) → w'.cell? p = w.cell? p
  frozen : ∀ p, w'.frozen? p = w.frozen? p

theorem byte_walk (v j : Nat) : ((v : Int) / 2 ^ (8 * j) % 256) = ((byteOf v j : Nat) : Int) := by
  have e : ((2 : Int) ^ (8 * j)) = ((256 ^ j : Nat) : Int) := by
    rw [Int.pow_mul]; simp
  rw [e, byteOf]; simp

theorem Puts.step {w wr : World} {b k v j : Nat} (h : Puts w wr b k v j) (hu : (wr.cell? ⟨b, k + j, none⟩).isSome = true) :
    Puts w (wr.setCell ⟨b, k + j, none⟩ (.int .u8 ((byteOf v j : Nat) : Int))) b k v (j + 1) := by
  refine ⟨⟨h.grown.os, h.grown.tape, h.grown.output, by simpa using h.grown.size, fun i hi hne => ?_⟩, by simpa using h.size, fun i hi => ?_, fun p hp => ?_, fun p => by simpa using h.frozen p⟩
  · rw [Below.heap_setCell _ _ _ _ (fun e => hne (by rw [e]))]; exact h.grown.block i hi hne
  · by_cases e : i = j
    · subst e; exact World.cell?_setCell_same' _ _ _ hu
    · rw [World.cell?_setCell_other _ _ _ _ (by intro he; injection he; omega)]; exact h.new i (by omega)
  · rw [World.cell?_setCell_other _ _ _ _ (by rintro rfl; simp at hp; omega)]; exact h.old p (by omega)

theorem put_yes (b o n : Nat) (c : Nat) (a s : Int) (v : Nat) (w : World) (hv : v < 18446744073709551616) (hn : n ≤ 9223372036854775807)
    (hc : ∀ i, i < n → ∃ u, w.cell? ⟨b, o + i, none⟩ = some u) (hf : ∀ i, i < n → w.frozen? ⟨b, o + i, none⟩ = false) (ht : thereB n a s = true) :
    Calls Tryz.prog 59 #[.slice (some ⟨b, o, none⟩) n c, .int .i64 a, .int .i64 s, .int .u64 v] w fun e w' => e = .returned (.bool true) ∧ Puts w w' b (o + a.toNat) v s.toNat := by
  have HT := Lib.hid ht
  obtain ⟨h1, h2, h3, h4⟩ := there_of ht
  clear ht
  have h5 := size_cases h1
  clear h1
  obtain ⟨p, rfl⟩ := Int.eq_ofNat_of_zero_le h2
  obtain ⟨q, rfl⟩ := Int.eq_ofNat_of_zero_le (show 0 ≤ s by omega)
  have hq : q ≤ 8 := by omega
  have hq1 : 1 ≤ q := by omega
  have hpq : p + q ≤ n := by omega
  clear h2 h3 h4 h5
  have HC := Lib.hid hc
  have HF := Lib.hid hf
  clear hc hf
  go_enter Tryz.func59, Tryz.ntmps59
  go_wp2_with (go_at_call 84; refine (there_any _ _ _ _ _ _ hn).mono ?_; rintro e w' ⟨rfl, rfl⟩; rw [HT.out])
  go_loopw [16] (fun i wr => ∃ j : Nat, j ≤ q ∧ i = .int .i64 j ∧ Puts w wr b (o + p) v j) (fun i _ => (q - (intOf i)).toNat)
  case atStart => exact ⟨0, by omega, rfl, ⟨World.grownBy.refl _ _, rfl, fun i hi => by omega, fun _ _ => rfl, fun _ => rfl⟩⟩
  case round =>
    obtain ⟨j, hj, rfl, hP⟩ := hrel
    have HP := Lib.hid hP
    clear hP
    by_cases h0 : j < q
    · have hcell := HP.out.old ⟨b, o + (p + j), none⟩ (.inr (.inr (by show o + p + j ≤ o + (p + j); omega)))
      obtain ⟨u, hu⟩ := HC.out (p + j) (by omega)
      rw [hu] at hcell
      clear hu
      have hfz := HP.out.frozen ⟨b, o + (p + j), none⟩
      rw [HF.out (p + j) (by omega)] at hfz
      go_wp2
      rw [byte_walk, show o + (p + j) = o + p + j by omega]
      exact ⟨⟨j + 1, by omega, by go_num, HP.out.step (by rw [show o + p + j = o + (p + j) by omega, hcell]; rfl)⟩, by simp [intOf]; omega⟩
    · obtain rfl : j = q := by omega
      go_wp2
      go_ret
      exact ⟨rfl, HP.out⟩

theorem put_no (A : Option Addr) (n : Nat) (c : Nat) (a s v : Int) (w : World) (hn : n ≤ 9223372036854775807) (ht : thereB n a s = false) :
    Calls Tryz.prog 59 #[.slice A n c, .int .i64 a, .int .i64 s, .int .u64 v] w fun e w' => e = .returned (.bool false) ∧ w = w' := by
  have HT := Lib.hid ht
  clear ht
  go_enter Tryz.func59, Tryz.ntmps59
  go_wp2_with (go_at_call 84; refine (there_any _ _ _ _ _ _ hn).mono ?_; rintro e w' ⟨rfl, rfl⟩; rw [HT.out])
  go_ret
  exact ⟨rfl, rfl⟩

/-- The bytes of a word. -/
def bytesOf (v : Nat) (s : Int) : List Nat := if sizeB s then (List.range s.toNat).map (byteOf v) else []

/-- A slice of bytes is handed back; nothing that was there has changed. -/
def RetB (l : List Nat) (w : World) (e : Ending) (w' : World) : Prop :=
  ∃ A c, e = .returned (.slice A l.length c) ∧ Bts w' A l ∧ (∀ a, A = some a → a.block < w'.heap.size) ∧ Below w.heap.size w w'

theorem byteOf_lt (v i : Nat) : byteOf v i < 256 := Nat.mod_lt _ (by decide)
theorem bytesOf_lt (v : Nat) (s : Int) (i : Nat) : (bytesOf v s).getD i 0 < 256 := by
  unfold bytesOf
  split
  · rw [List.getD_eq_getElem?_getD, List.getElem?_map]
    cases h : (List.range s.toNat)[i]? with
    | none => simp
    | some k => simpa using byteOf_lt v k
  · simp
theorem bytesOf_length (v q : Nat) (h : sizeB q = true) : (bytesOf v q).length = q := by simp [bytesOf, h]
theorem bytesOf_get (v q i : Nat) (h : sizeB q = true) (hi : i < q) : (bytesOf v q).getD i 0 = byteOf v i := by
  simp [bytesOf, h, List.getElem?_range hi]

theorem there_all (q : Nat) (h : sizeB q = true) : thereB q 0 q = true := by simp [thereB, h]

theorem info5 : (Tryz.prog.info? 5).map (fun i => (i.zero, i.size, i.bytes)) = some (some (.int .u8 0), 1, 1) := by kernel_rfl

theorem made_byte (q i : Nat) (hi : i < q) : (madeCells #[Value.int IntKind.u8 0] q)[i]? = some (.int .u8 0) := by
  have : [Value.int IntKind.u8 0][i % 1]? = some (Value.int IntKind.u8 0) := by rw [Nat.mod_one]; rfl
  unfold madeCells
  simp [hi, this]
end Go.Proofs.YtophcgbddccpeaaGreat

/- Slices of bytes: how they read, how a row of the call's own reads, cuts, texts. -/
namespace Go.Proofs.YtophcgbddccpeaaGreat
open Go.RowKit Go.ChangeShapes

def bv (n : Nat) : Value := .int .u8 (n : Int)
theorem one_u8 (x : Int) : ∀ u ∈ [Value.int .u8 x], u.oneCell' = true := by
  intro u hu; simp at hu; subst hu; rfl
theorem own_below {w w' : World} {base : Nat} {e : TypeId} {size : Nat} {v : Value} {n : Nat} {xs : List Value} (h : w.ownsRow base e size v n xs) (hb : Below w.heap.size w w') : w'.ownsRow base e size v n xs := by
  refine h.kept (row := none) ⟨hb.os, hb.tape, hb.output, hb.size, fun k hk _ => hb.block k hk⟩ ?_
  cases hv : v.ownBlock with
  | none => exact .inl rfl
  | some g => exact .inr (by simp)
theorem below_grown {w wr w' : World} {base : Nat} {e : TypeId} {size : Nat} {v : Value} {n : Nat} {xs : List Value} (h : wr.ownsRow base e size v n xs) (hb : Below base w wr) (hg : wr.grownBy w' v.ownBlock) (hB : base ≤ wr.heap.size) : Below base w w' :=
  hb.grown hg hB (fun k hk => (h.lt k hk).1)
/-- A slice of bytes of the call's own is handed back. -/
def RetOwn (l : List Nat) (w : World) (e : Ending) (w' : World) : Prop :=
  ∃ v, e = .returned v ∧ w'.ownsRow w.heap.size 5 1 v l.length (l.map bv) ∧ Below w.heap.size w w'
/-- An owned row of bytes reads as bytes. -/
theorem bts_own {w : World} {base n : Nat} {v : Value} {l : List Nat} (h : w.ownsRow base 5 1 v n (l.map bv)) (hl : ∀ i : Nat, l.getD i 0 < 256) (hn : n = l.length) :
    ∃ A c, v = .slice A l.length c ∧ Bts w A l ∧ (∀ a, A = some a → a.block < w.heap.size) := by
  subst hn
  rcases h.2 with ⟨rfl, hx⟩ | ⟨g, cap, cur, rfl, _, hh, _⟩
  · have : l = [] := by simpa using hx
    subst this
    exact ⟨none, 0, rfl, ⟨hl, fun h => by simp at h⟩, fun a ha => by cases ha⟩
  · have hlt := (h.lt g rfl).2
    refine ⟨_, cap, rfl, ⟨hl, fun _ => ⟨g, 0, rfl, fun i hi => ?_⟩⟩, fun a ha => by injection ha with ha; subst ha; exact hlt⟩
    have := h.cells (g := g) rfl i (bv (l.getD i 0)) (by rw [List.getElem?_map, List.getD_eq_getElem?_getD, List.getElem?_eq_getElem hi]; rfl)
    by_cases h0 : i = 0
    · subst h0; simpa [Addr.add, bv] using this
    · simpa [Addr.add, bv, h0] using this
theorem bts_below {w w' : World} {A : Option Addr} {l : List Nat} (h : Bts w A l) (hb : Below w.heap.size w w') : Bts w' A l := by
  refine ⟨h.1, fun hl => ?_⟩
  obtain ⟨b, o, e, hc⟩ := h.2 hl
  have := cell_lt (hc 0 hl)
  exact ⟨b, o, e, fun i hi => by rw [hb.cell (p := ⟨b, o + i, none⟩) this]; exact hc i hi⟩
def strB (l : List Nat) : ByteArray := ⟨(l.map UInt8.ofNat).toArray⟩
theorem conv_bts {w : World} {A : Option Addr} {l : List Nat} {n c : Nat} (h : Bts w A l) (hn : l.length = n) :
    (convert 22 9 (.slice A n c)).run Tryz.prog w = .ok (.string (strB l)) w := by
  subst hn
  have hs := Tryz.underlying22
  have he := Tryz.underlying5
  have hd := Tryz.underlying9
  rcases Nat.eq_zero_or_pos l.length with h0 | h0
  · obtain rfl : l = [] := List.eq_nil_of_length_eq_zero h0
    cases A with
    | none => exact run_convert_bytes_nil w _ _ hs he 0 c _ hd
    | some a =>
      have hl : (loadCells a 0).run Tryz.prog w = .ok (([] : List Int).map (Value.int .u8)).toArray w := by
        have := run_loadCells_list (P := Tryz.prog) w a [] (fun j v hj => by simp at hj)
        simpa using this
      rw [run_convert_bytes_string w _ _ _ _ _ c hs he hd]
      show (Conv.bytesToString (.slice (some a) 0 c)).run Tryz.prog w = _
      rw [run_bytesToString w a 0 c [] hl]
      rfl
  · obtain ⟨b, o, rfl, hc⟩ := h.2 h0
    have := run_convert_bytes_arg (P := Tryz.prog) w _ _ hs he b o l.length c (l.map Int.ofNat) (by simp) (fun i hi => by
      rw [hc i hi]
      simp [List.getElem?_eq_getElem hi]) _ hd
    rw [this]
    simp [strOfNums, strB, Function.comp_def]
theorem bts_new3 (w : World) (x y z : Nat) (hx : x < 256) (hy : y < 256) (hz : z < 256) : Bts (w.alloc (.cells #[.int .u8 x, .int .u8 y, .int .u8 z] 5)) (some ⟨w.heap.size, 0, none⟩) [x, y, z] := by
  refine ⟨fun i => ?_, fun _ => ⟨_, _, rfl, fun i hi => ?_⟩⟩
  · match i with
    | 0 => exact hx
    | 1 => exact hy
    | 2 => exact hz
    | i + 3 => simp
  · rw [World.cell?_alloc_new]
    match i, hi with
    | 0, _ => rfl
    | 1, _ => rfl
    | 2, _ => rfl
    | i + 3, hi => exact absurd hi (by simp)
theorem bts_of_row {w : World} {a : Option Addr} {len cap : Nat} {zs : List Int} (h : IsRow .u8 w a len cap zs) : ∃ l : List Nat, l.length = len ∧ Bts w a l ∧ len ≤ 9223372036854775807 := by
  rcases h with ⟨rfl, rfl, rfl, rfl⟩ | ⟨x, rfl, hl, hm, hz, hc, hw⟩
  · exact ⟨[], rfl, ⟨fun i => by simp, fun h => by simp at h⟩, by omega⟩
  · unfold maxLen at hm
    have hlen : ((zs.take len).map Int.toNat).length = len := by simp; omega
    have hget : ∀ i, i < len → ((zs.take len).map Int.toNat).getD i 0 = (zs.getD i 0).toNat := fun i hi => by
      simp [List.getD_eq_getElem?_getD, List.getElem?_take, hi]
      cases zs[i]? <;> simp
    have hb : ∀ i, i < len → 0 ≤ zs.getD i 0 ∧ zs.getD i 0 < 256 := fun i hi => u8_of_wf (hw _ (by
      rw [List.getD_eq_getElem?_getD, List.getElem?_eq_getElem (by omega)]; exact List.getElem_mem _))
    refine ⟨(zs.take len).map Int.toNat, hlen, ⟨fun i => ?_, fun h0 => ?_⟩, by omega⟩
    · rcases Nat.lt_or_ge i len with hi | hi
      · rw [hget i hi]; have := hb i hi; omega
      · rw [List.getD_eq_getElem?_getD, List.getElem?_eq_none (by omega)]; simp
    · rw [hlen] at h0
      have h00 := hc 0 (by omega)
      obtain ⟨b, o, spot⟩ := x
      have hspot : spot = none := by simpa [Addr.add] using World.cell?_spot h00
      subst hspot
      refine ⟨b, o, rfl, fun i hi => ?_⟩
      rw [hlen] at hi
      have := hc i (by omega)
      rw [hget i hi, Int.toNat_of_nonneg (hb i hi).1]
      have e : (⟨b, o, none⟩ : Addr).add i = ⟨b, o + i, none⟩ := by unfold Addr.add; split <;> simp_all
      rw [← e]; exact this
theorem reads_bts {w : World} {A : Option Addr} {l : List Nat} (h : Bts w A l) : Reads w w.heap.size 1 A l.length (l.map bv) := by
  refine ⟨by simp, fun hl => ?_⟩
  obtain ⟨b, o, rfl, hc⟩ := h.2 hl
  refine ⟨_, rfl, cell_lt (hc 0 hl), fun j u hu => ?_⟩
  have hj : j < l.length := by
    rcases Nat.lt_or_ge j l.length with h1 | h1
    · exact h1
    · rw [List.getElem?_eq_none (by simpa using h1)] at hu; cases hu
  have e : (⟨b, o, none⟩ : Addr).add j = ⟨b, o + j, none⟩ := by unfold Addr.add; split <;> simp_all
  rw [e, hc j hj]
  rw [List.getElem?_map, List.getElem?_eq_getElem hj] at hu
  simp at hu
  rw [← hu, List.getD_eq_getElem?_getD, List.getElem?_eq_getElem hj]
  rfl
theorem own_frozen {w : World} {base n : Nat} {e : TypeId} {v : Value} {xs : List Value} (h : w.ownsRow base e 1 v n xs) {A : Addr} {m c : Nat} (hv : v = .slice (some A) m c) (i : Nat) : w.frozen? ⟨A.block, i, none⟩ = false := by
  rcases h.2 with ⟨rfl, _⟩ | ⟨g, cap, cur, rfl, _, hh, _⟩
  · cases hv
  · injection hv with h1 _ _
    injection h1 with h1
    subst h1
    simp [World.frozen?, hh]
theorem one_bv (l : List Nat) : ∀ u ∈ l.map bv, u.oneCell' = true := by
  intro u hu
  obtain ⟨x, _, rfl⟩ := List.mem_map.1 hu
  rfl
theorem bts_cut {w : World} {A : Option Addr} {l : List Nat} {k c : Nat} (h : Bts w A l) (hk : k ≤ l.length) (hc : l.length ≤ c) : Bts w (if c = k then A else A.map (·.add (k * 1))) (l.drop k) := by
  refine ⟨fun i => getD_drop_lt l k h.1 i, fun hl => ?_⟩
  have hk2 : k < l.length := by simp at hl; omega
  obtain ⟨b, o, rfl, hcell⟩ := h.2 (by omega)
  rw [if_neg (by omega)]
  refine ⟨b, o + k, by simp [Addr.add], fun i hi => ?_⟩
  rw [getD_drop, show o + k + i = o + (k + i) by omega]
  exact hcell _ (by simp at hi; omega)
theorem bts_take {w : World} {A : Option Addr} {l : List Nat} {k : Nat} (h : Bts w A l) : Bts w A (l.take k) := by
  refine ⟨fun i => getD_take_lt l k i h.1, fun hl => ?_⟩
  obtain ⟨b, o, rfl, hcell⟩ := h.2 (by simp at hl; omega)
  refine ⟨b, o, rfl, fun i hi => ?_⟩
  rw [List.length_take] at hi
  rw [List.getD_eq_getElem?_getD, List.getElem?_take, if_pos (by omega), ← List.getD_eq_getElem?_getD]
  exact hcell i (by omega)
theorem strB_append (a b : List Nat) : strB a ++ strB b = strB (a ++ b) := by
  apply ByteArray.ext
  simp [strB]
theorem strB_size (a : List Nat) : (strB a).size = a.length := by simp [strB, ByteArray.size]
theorem slice_eq_nil {P : Program} (w : World) (t e : TypeId) (a : Option Addr) (l c : Nat) (h : P.underlying t = some (.slice e)) : (binOp .eql t (.slice a l c) (.slice none 0 0)).run P w = .ok (.bool a.isNone) w := by
  simp [binOp, run_equal_slice_nil, h, Sem.run_bind, Result.andThen]
end Go.Proofs.YtophcgbddccpeaaGreat

/- Contract of word.Aligned. -/
namespace Go.Proofs.YtophcgbddccpeaaGreat
open Go.RowKit

def alignedB (v : Nat) (s : Int) : Bool := sizeB s && v % s.toNat == 0

theorem aligned_eq (v k : Nat) (m : Int) (hk : k < 63) (hm : m = ((2 ^ k - 1 : Nat) : Int)) (hv : v < 18446744073709551616) : (bits .and .u64 (v : Int) m == 0) = (v % 2 ^ k == 0) := by
  have h1 : 2 ^ k ≤ 2 ^ 63 := Nat.pow_le_pow_right (by decide) (by omega)
  rw [hm, bits_and_u64_nat _ _ hv (by omega), Nat.and_two_pow_sub_one_eq_mod]
  by_cases h : v % 2 ^ k = 0
  · rw [h]; rfl
  · have h2 : ((v % 2 ^ k : Nat) : Int) ≠ 0 := by omega
    rw [beq_false_of_ne h2, beq_false_of_ne h]

theorem aligned_any (v : Nat) (s : Int) (w : World) (hv : v < 18446744073709551616) :
    Calls Tryz.prog 50 #[.int .u64 v, .int .i64 s] w fun e w' => e = .returned (.bool (alignedB v s)) ∧ w = w' := by
  rcases Bool.eq_false_or_eq_true (sizeB s) with h1 | h1
  · rcases size_cases h1 with rfl | rfl | rfl | rfl
    all_goals
      have H1 := Lib.hid h1
      have HV := Lib.hid hv
      clear h1 hv
      go_enter Tryz.func50, Tryz.ntmps50
      go_wp2_with (go_at_call 75; refine (size_any _ _).mono ?_; rintro e w' ⟨rfl, rfl⟩; rw [H1.out])
      go_ret
      refine ⟨?_, rfl⟩
      unfold alignedB
      rw [H1.out, Bool.true_and]
      first
        | exact congrArg (fun x => Ending.returned (.bool x)) (aligned_eq v 0 0 (by decide) rfl HV.out)
        | exact congrArg (fun x => Ending.returned (.bool x)) (aligned_eq v 1 1 (by decide) rfl HV.out)
        | exact congrArg (fun x => Ending.returned (.bool x)) (aligned_eq v 2 3 (by decide) rfl HV.out)
        | exact congrArg (fun x => Ending.returned (.bool x)) (aligned_eq v 3 7 (by decide) rfl HV.out)
  · have H1 := Lib.hid h1
    clear h1
    go_enter Tryz.func50, Tryz.ntmps50
    go_wp2_with (go_at_call 75; refine (size_any _ _).mono ?_; rintro e w' ⟨rfl, rfl⟩; rw [H1.out])
    go_ret
    exact ⟨by simp [alignedB, H1.out], rfl⟩
end Go.Proofs.YtophcgbddccpeaaGreat

/- Contracts of the reference's Size and Bytes. -/
namespace Go.Proofs.YtophcgbddccpeaaGreat
open Go.RowKit

theorem rsize_any (n : Int) (w : World) :
    Calls Tryz.prog 39 #[.int .i64 n] w fun e w' => e = .returned (.bool (sizeB n)) ∧ Below w.heap.size w w' := by
  go_enter Tryz.func39, Tryz.ntmps39
  go_wp2
  go_rounds 5
  all_goals (go_ret; refine ⟨by simp [sizeB, *], by go_grown⟩)

theorem bytesOf_take (v q j : Nat) (h : sizeB q = true) (hj : j < q) : (bytesOf v q).take (j + 1) = (bytesOf v q).take j ++ [byteOf v j] := by
  rw [List.take_succ_eq_append_getElem (by rw [bytesOf_length v q h]; exact hj)]
  have := bytesOf_get v q j h hj
  rw [List.getD_eq_getElem?_getD, List.getElem?_eq_getElem (by rw [bytesOf_length v q h]; exact hj)] at this
  simp at this
  rw [this]

theorem cast_div (v j : Nat) : ((v : Int) / 256 ^ j) = ((v / 256 ^ j : Nat) : Int) := by simp
theorem div_step (v j : Nat) (hv : v < 18446744073709551616) : IntKind.u64.wrap (((v : Int) / 256 ^ j).tdiv 256) = (v : Int) / 256 ^ (j + 1) := by
  have h : v / 256 ^ j ≤ v := Nat.div_le_self _ _
  rw [cast_div, cast_div, Nat.pow_succ, ← Nat.div_div_eq_div_mul]
  generalize v / 256 ^ j = x at *
  rw [IntWalk.u64_quo _ _ (by omega)]
  simp
theorem byte_tmod (v j : Nat) : ((v : Int) / 256 ^ j).tmod 256 % 256 = ((byteOf v j : Nat) : Int) := by
  rw [cast_div, byteOf]
  generalize v / 256 ^ j = x
  rw [Int.tmod_eq_emod_of_nonneg (by omega)]
  omega
theorem byte_take (v q j : Nat) (x : Int) (h : sizeB q = true) (hj : j < q) (hx : x = ((byteOf v j : Nat) : Int)) : ((bytesOf v q).take j).map bv ++ [Value.int .u8 x] = ((bytesOf v q).take (j + 1)).map bv := by
  rw [bytesOf_take v q j h hj, hx]; simp [bv]

end Go.Proofs.YtophcgbddccpeaaGreat

/- A map of pages: pointers by numbers. -/
namespace Go.Proofs.YtophcgbddccpeaaGreat
open Go.RowKit Go.Maps

/-- How a pointer reads: by its block's number. -/
def ptrR (v : Value) : Option (DataW Unit × List MemPlace) :=
  match v with
  | .pointer none => some (.lit (.bool false), [])
  | .pointer (some ⟨b, 0, none⟩) => some (.lit (.int .i64 (b : Int)), [])
  | _ => none
def ptrV : Option Nat → Value
  | none => .pointer none
  | some b => .pointer (some ⟨b, 0, none⟩)
def ptrD : Option Nat → DataW Unit
  | none => .lit (.bool false)
  | some b => .lit (.int .i64 (b : Int))
theorem ptrR_V (o : Option Nat) : ptrR (ptrV o) = some (ptrD o, []) := by cases o <;> rfl
theorem ptrR_inv {v : Value} {o : Option Nat} {ps : List MemPlace} (h : ptrR v = some (ptrD o, ps)) : v = ptrV o := by
  unfold ptrR at h
  split at h
  · cases o
    · rfl
    · simp [ptrD] at h
  · rename_i b
    cases o with
    | none => simp [ptrD] at h
    | some c =>
      simp [ptrD] at h
      have : b = c := by have := h.1; omega
      subst this; rfl
  · cases h
theorem lawI : Keyed Tryz.prog 3 := int_keyed Tryz.underlying3
theorem zeroP (w : World) : (zeroValue 135).run Tryz.prog w = .ok (.pointer none) w := by kernel_rfl
theorem keyI {f : Int} (h : (Lit.int .i64 f).wf = true) : keyOf Tryz.prog 3 (.int .i64 f) = some (.int .i64 f) := keyOf_int_mk Tryz.underlying3 h
theorem isKeyI (f : Int) : WideAt.IsKeyLit (.int .i64 f) := by simp [WideAt.IsKeyLit]
theorem wfN {k : Nat} (h : k < 9223372036854775808) : (Lit.int .i64 (k : Int)).wf = true := by
  simp [Lit.wf, IntKind.min, IntKind.max, IntKind.signed, IntKind.bits]
  omega
/-- Block b is a map that holds a pointer to the block loc k at each number k of K, and nothing else. -/
def PMap (w : World) (b : Nat) (K : List Nat) (loc : Nat → Nat) : Prop := ∃ D : DataW Unit, w.ownsMap Tryz.prog 3 ptrR b K.length D ∧
  ∀ k : Nat, k < 9223372036854775808 → D.atKey (.int .i64 (k : Int)) (.lit (.bool false)) = ptrD (if k ∈ K then some (loc k) else none)
theorem PMap.lt {w : World} {b : Nat} {K : List Nat} {loc : Nat → Nat} (h : PMap w b K loc) : b < w.heap.size := by
  obtain ⟨D, h, _⟩ := h; exact h.lt
theorem PMap.keep {w w' : World} {b : Nat} {K : List Nat} {loc : Nat → Nat} {row : Option Nat} (h : PMap w b K loc) (hg : w.grownBy w' row) (hne : some b ≠ row) : PMap w' b K loc := by
  obtain ⟨D, h, r⟩ := h; exact ⟨D, h.kept hg hne, r⟩
theorem PMap.keeps {w w' : World} {b : Nat} {K : List Nat} {loc : Nat → Nat} {F : Nat → Prop} (h : PMap w b K loc) (hg : Keeps F w w') (hne : ¬ F b) : PMap w' b K loc := by
  obtain ⟨D, h, r⟩ := h; exact ⟨D, hg.map h hne, r⟩
theorem PMap.look {w : World} {b : Nat} {K : List Nat} {loc : Nat → Nat} (h : PMap w b K loc) {k : Nat} (hk : k < 9223372036854775808) :
    (Instr.lookup 106 (.map (some b)) (.int .i64 (k : Int)) false).run Tryz.prog w = .ok (ptrV (if k ∈ K then some (loc k) else none)) w := by
  obtain ⟨D, h, hD⟩ := h
  obtain ⟨v, ps, hrun, hv⟩ := h.lookup lawI Tryz.underlying106 (zeroP w) (ptrR_V none) (keyI (wfN hk))
  rw [show ptrD none = .lit (.bool false) from rfl, hD k hk] at hv
  rw [hrun, ptrR_inv hv]
theorem PMap.new (w : World) (loc : Nat → Nat) : PMap (w.alloc (.map #[] 0)) w.heap.size [] loc :=
  ⟨.map [], World.ownsMap_made _ _ _ _, fun k hk => by simp [DataW.atKey, ptrD]⟩
theorem PMap.put {w : World} {b : Nat} {K : List Nat} {loc : Nat → Nat} (h : PMap w b K loc) {k p : Nat} (hk : k < 9223372036854775808) (hm : K.length < maxLen) :
    ∃ w', (Instr.mapUpdate 106 (.map (some b)) (.int .i64 (k : Int)) (ptrV (some p))).run Tryz.prog w = .ok () w' ∧ PMap w' b (k :: K) (fun j => if j = k then p else loc j) ∧ w.grownBy w' (some b) := by
  obtain ⟨D, h, hD⟩ := h
  obtain ⟨w', hrun, h', hg⟩ := h.update lawI Tryz.underlying106 hm (keyI (wfN hk)) (ptrR_V (some p))
  refine ⟨w', hrun, ⟨_, h', fun j hj => ?_⟩, hg⟩
  by_cases e : j = k
  · subst e
    rw [Maps.atKey_put_same h.isMap (isKeyI _)]
    simp
  · have hne : (Lit.int .i64 (j : Int)) ≠ .int .i64 (k : Int) := by intro h; injection h with _ h; exact e (by omega)
    rw [Maps.atKey_put_other hne, hD j hj]
    simp [e]
section
variable {ops : Array Oper} {rest : List Oper} {o : Oper} {a : Act} {Q : Exit → Act → World → Prop}
theorem wpList_pput (w : World) (hg : o.guard = none) (m x v : Operand) (hop : o.op = Op.mapUpdate 106 m x v) (b : Nat) (K : List Nat) (loc : Nat → Nat) (k p : Nat)
    (hm : a.eval m = .map (some b)) (hx : a.eval x = .int .i64 (k : Int)) (hv : a.eval v = .pointer (some ⟨p, 0, none⟩)) (h : PMap w b K loc) (hk : k < 9223372036854775808) (hmax : K.length < maxLen)
    (hK : ∀ w', PMap w' b (k :: K) (fun j => if j = k then p else loc j) → w.grownBy w' (some b) → wpList Tryz.prog ops Q rest (a.put o.dst undef) w') : wpList Tryz.prog ops Q (o :: rest) a w := by
  refine wpList_plain hg fun K' hK' => ?_
  obtain ⟨w', hrun, r1, r2⟩ := h.put (p := p) hk hmax
  unfold Oper.wp
  simp [execOp, hop, hm, hx, hv, ptrV, Result.andThen] at hrun ⊢
  rw [hrun]
  exact hK' _ _ (hK w' r1 r2)
end
theorem nodup_len : ∀ (n : Nat) (K : List Nat), K.Nodup → (∀ k ∈ K, k < n) → K.length ≤ n
  | 0, K, _, h => by
    cases K with
    | nil => simp
    | cons k K => exact absurd (h k (by simp)) (by omega)
  | n + 1, K, hn, h => by
    by_cases hm : n ∈ K
    · have h1 := nodup_len n (K.erase n) (hn.erase n) (fun k hk => by
        have h2 := (hn.mem_erase_iff).1 hk
        have := h k h2.2
        omega)
      rw [List.length_erase_of_mem hm] at h1
      omega
    · have h1 := nodup_len n K hn (fun k hk => by
        have := h k hk
        have : k ≠ n := fun e => hm (by rw [← e]; exact hk)
        omega)
      omega
end Go.Proofs.YtophcgbddccpeaaGreat

/- A memory: its state; New, Frames, check, frame. -/
namespace Go.Proofs.YtophcgbddccpeaaGreat
open Go.RowKit

def zeroL : List Nat := List.replicate 4096 0
theorem zeroL_get (i : Nat) : zeroL.getD i 0 = 0 := by
  unfold zeroL
  rw [List.getD_eq_getElem?_getD, List.getElem?_replicate]
  split <;> rfl
/-- A page of bytes lies in block p. -/
def PgAt (w : World) (p : Nat) (l : List Nat) : Prop := l.length = 4096 ∧ (∀ i, l.getD i 0 < 256) ∧ (∀ i, i < 4096 → w.cell? ⟨p, i, none⟩ = some (bv (l.getD i 0))) ∧ ∀ i, w.frozen? ⟨p, i, none⟩ = false
theorem PgAt.lt {w : World} {p : Nat} {l : List Nat} (h : PgAt w p l) : p < w.heap.size := by
  have := cell_lt (h.2.2.1 0 (by decide)); exact this
theorem PgAt.block {w w' : World} {p : Nat} {l : List Nat} (h : PgAt w p l) (hb : w'.heap[p]? = w.heap[p]?) : PgAt w' p l := by
  refine ⟨h.1, h.2.1, fun i hi => ?_, fun i => ?_⟩
  · rw [World.cell?_of_block (a := ⟨p, i, none⟩) hb]; exact h.2.2.1 i hi
  · rw [World.frozen?_of_block (a := ⟨p, i, none⟩) hb]; exact h.2.2.2 i
theorem PgAt.keeps {w w' : World} {p : Nat} {l : List Nat} {F : Nat → Prop} (h : PgAt w p l) (hk : Keeps F w w') (hF : ¬ F p) : PgAt w' p l := h.block (hk.block p h.lt hF)
theorem PgAt.bts {w : World} {p : Nat} {l : List Nat} (h : PgAt w p l) : Bts w (some ⟨p, 0, none⟩) l := ⟨h.2.1, fun _ => ⟨p, 0, rfl, fun i hi => by rw [Nat.zero_add]; exact h.2.2.1 i (by rw [← h.1]; exact hi)⟩⟩
/-- The blocks of a memory. -/
structure MemAt (w : World) (g mb : Nat) (loc : Nat → Nat) (K : List Nat) (n : Nat) (S : Nat → List Nat) : Prop where
  head : Blk w g 108 #[.map (some mb), .int .i64 (n : Int)]
  mp : PMap w mb K loc
  page : ∀ k ∈ K, PgAt w (loc k) (S k)
  zero : ∀ k, k ∉ K → S k = zeroL
  nd : K.Nodup
  lt : ∀ k ∈ K, k < n
  inj : ∀ i j, i ∈ K → j ∈ K → loc i = loc j → i = j
  apart : mb ≠ g ∧ (∀ k ∈ K, loc k ≠ g ∧ loc k ≠ mb)
  n1 : 1 ≤ n
  n2 : n ≤ 1048576
def memF (g mb : Nat) (loc : Nat → Nat) (K : List Nat) (b : Nat) : Prop := b = g ∨ b = mb ∨ ∃ k ∈ K, b = loc k
section
variable {w w' : World} {g mb n : Nat} {loc : Nat → Nat} {K : List Nat} {S : Nat → List Nat}
theorem MemAt.flt (h : MemAt w g mb loc K n S) : ∀ b, memF g mb loc K b → b < w.heap.size := by
  rintro b (rfl | rfl | ⟨k, hk, rfl⟩)
  · exact h.head.lt
  · exact h.mp.lt
  · exact (h.page k hk).lt
theorem MemAt.keeps {F : Nat → Prop} (h : MemAt w g mb loc K n S) (hk : Keeps F w w') (hF : ∀ b, memF g mb loc K b → ¬ F b) : MemAt w' g mb loc K n S :=
  ⟨hk.blk h.head (hF _ (.inl rfl)), h.mp.keeps hk (hF _ (.inr (.inl rfl))), fun k hK => (h.page k hK).keeps hk (hF _ (.inr (.inr ⟨k, hK, rfl⟩))), h.zero, h.nd, h.lt, h.inj, h.apart, h.n1, h.n2⟩
theorem MemAt.below (h : MemAt w g mb loc K n S) (hb : Below w.heap.size w w') : MemAt w' g mb loc K n S := h.keeps (F := fun _ => False) (Keeps.of_below hb) (fun _ _ h => h)
theorem MemAt.len (h : MemAt w g mb loc K n S) : K.length ≤ 1048576 := Nat.le_trans (nodup_len n K h.nd h.lt) h.n2
theorem MemAt.pgLen (h : MemAt w g mb loc K n S) (k : Nat) : (S k).length = 4096 := by
  by_cases hk : k ∈ K
  · exact (h.page k hk).1
  · rw [h.zero k hk]; exact List.length_replicate
theorem MemAt.pgLt (h : MemAt w g mb loc K n S) (k i : Nat) : (S k).getD i 0 < 256 := by
  by_cases hk : k ∈ K
  · exact (h.page k hk).2.1 i
  · rw [h.zero k hk, zeroL_get]; decide
end
/-- A memory of n frames with the pages S, somewhere in F. -/
def Mem (w : World) (g : Nat) (F : Nat → Prop) (n : Nat) (S : Nat → List Nat) : Prop := ∃ mb loc K, MemAt w g mb loc K n S ∧ (∀ b, memF g mb loc K b → F b)
theorem Mem.keeps {w w' : World} {g n : Nat} {F G : Nat → Prop} {S : Nat → List Nat} (h : Mem w g F n S) (hk : Keeps G w w') (hd : ∀ b, F b → ¬ G b) : Mem w' g F n S := by
  obtain ⟨mb, loc, K, h, hF⟩ := h
  exact ⟨mb, loc, K, h.keeps hk (fun b hb => hd b (hF b hb)), hF⟩
theorem Mem.below {w w' : World} {g n : Nat} {F : Nat → Prop} {S : Nat → List Nat} (h : Mem w g F n S) (hb : Below w.heap.size w w') : Mem w' g F n S := h.keeps (G := fun _ => False) (Keeps.of_below hb) (fun _ _ h => h)
theorem Mem.mono {w : World} {g n : Nat} {F G : Nat → Prop} {S : Nat → List Nat} (h : Mem w g F n S) (hG : ∀ b, F b → G b) : Mem w g G n S := by
  obtain ⟨mb, loc, K, h, hF⟩ := h
  exact ⟨mb, loc, K, h, fun b hb => hG b (hF b hb)⟩
theorem new_no (n : Int) (W : World) (hn : n < 1 ∨ 1048576 < n) :
    Calls Tryz.prog 18 #[.int .i64 n] W fun e w' => e = .returned (.tuple #[.pointer none, .int .i64 2]) ∧ W = w' := by
  rcases hn with hn | hn
  · go_enter Tryz.func18, Tryz.ntmps18
    go_wp2
    go_ret2
    exact ⟨rfl, rfl⟩
  · have h1 : ¬ n < 1 := by omega
    go_enter Tryz.func18, Tryz.ntmps18
    go_wp2
    go_ret2
    exact ⟨rfl, rfl⟩
def emptyS : Nat → List Nat := fun _ => zeroL
theorem new_yes (n : Nat) (W : World) (h1 : 1 ≤ n) (h2 : n ≤ 1048576) :
    Calls Tryz.prog 18 #[.int .i64 (n : Int)] W fun e w' => ∃ g, e = .returned (.tuple #[.pointer (some ⟨g, 0, none⟩), .int .i64 0]) ∧ Mem w' g (fun b => W.heap.size ≤ b) n emptyS ∧ Below W.heap.size W w' := by
  have hmm := @run_makeMap Tryz.prog
  have hm := PMap.new W (fun _ => 0)
  have hW : Below W.heap.size W (W.alloc (.map #[] 0)) := (Below.refl _ _).alloc (Nat.le_refl _) _
  have HM := Lib.hid hm
  have HW := Lib.hid hW
  clear hm hW
  go_enter Tryz.func18, Tryz.ntmps18
  go_wp2
  go_ret2
  refine ⟨W.heap.size + 1, rfl, ⟨W.heap.size, fun _ => 0, [], ⟨Blkf.new_at _ _ _ _ (by simp), ?_, fun k hk => by simp at hk, fun k _ => rfl, by simp, fun k hk => by simp at hk, fun i j hi => by simp at hi, ⟨by omega, fun k hk => by simp at hk⟩, h1, h2⟩, ?_⟩, HW.out.alloc HW.out.size _⟩
  · exact HM.out.keep (World.grownBy_alloc _ _ none) (by simp)
  · rintro b (rfl | rfl | ⟨k, hk, _⟩)
    · omega
    · exact Nat.le_refl _
    · simp at hk
/-- What a word's place comes to. -/
def chkE (n at_ : Nat) (s : Int) : Int := if sizeB s = false then 2 else if alignedB at_ s = false then 60 else if n ≤ at_ / 4096 then 61 else 0
theorem check_any (g : Nat) (v : Value) (n at_ : Nat) (s : Int) (W : World) (hb : Blk W g 108 #[v, .int .i64 (n : Int)]) (hn : n ≤ 1048576) (ha : at_ < 18446744073709551616) :
    Calls Tryz.prog 58 #[.pointer (some ⟨g, 0, none⟩), .int .u64 (at_ : Int), .int .i64 s] W fun e w' => e = .returned (.int .i64 (chkE n at_ s)) ∧ W = w' := by
  have H : Hid (chkE n at_ s = if sizeB s = false then 2 else if alignedB at_ s = false then 60 else if n ≤ at_ / 4096 then 61 else 0) := Lib.hid rfl
  have c1 : W.cell? ⟨g, 1, none⟩ = some (.int .i64 (n : Int)) := hb.cell 1
  have hw : IntKind.u64.wrap (n : Int) = (n : Int) := by rw [IntKind.wrap_u64]; omega
  have HA := Lib.hid ha
  clear hb
  go_enter Tryz.func58, Tryz.ntmps58
  go_wp2_with fail
  refine (size_any s _).mono ?_
  rintro e w ⟨rfl, rfl⟩
  cases h1 : sizeB s
  · rw [h1] at H
    have H1 := Lib.hid h1
    clear h1
    go_wp2_with fail
    go_ret
    exact ⟨by rw [H.out]; rfl, rfl⟩
  · rw [h1] at H
    have H1 := Lib.hid h1
    clear h1
    go_wp2_with fail
    refine (aligned_any at_ s _ HA.out).mono ?_
    rintro e w ⟨rfl, rfl⟩
    cases h2 : alignedB at_ s
    · rw [h2] at H
      have H2 := Lib.hid h2
      clear h2
      go_wp2_with fail
      go_ret
      exact ⟨by rw [H.out]; rfl, rfl⟩
    · rw [h2] at H
      have H2 := Lib.hid h2
      clear h2
      by_cases h3 : n ≤ at_ / 4096
      · rw [if_pos h3] at H
        have h3' : (n : Int) ≤ (at_ : Int) / 4096 := by omega
        go_wp2_with fail
        go_ret
        exact ⟨by rw [H.out]; rfl, rfl⟩
      · rw [if_neg h3] at H
        have h3' : ¬ (n : Int) ≤ (at_ : Int) / 4096 := by omega
        go_wp2_with fail
        go_ret
        exact ⟨by rw [H.out]; rfl, rfl⟩
theorem check_nil (a s : Int) (W : World) :
    Calls Tryz.prog 58 #[.pointer none, .int .u64 a, .int .i64 s] W fun e w' => e = .returned (.int .i64 1) ∧ W = w' := by
  go_enter Tryz.func58, Tryz.ntmps58
  go_wp2_with fail
  go_ret
  exact ⟨rfl, rfl⟩
def frE (n : Nat) (f : Int) : Int := if f < 0 ∨ (n : Int) ≤ f then 61 else 0
theorem frame_any (g : Nat) (v : Value) (n : Nat) (f : Int) (W : World) (hb : Blk W g 108 #[v, .int .i64 (n : Int)]) :
    Calls Tryz.prog 64 #[.pointer (some ⟨g, 0, none⟩), .int .i64 f] W fun e w' => e = .returned (.int .i64 (frE n f)) ∧ W = w' := by
  have H : Hid (frE n f = if f < 0 ∨ (n : Int) ≤ f then 61 else 0) := Lib.hid rfl
  have c1 : W.cell? ⟨g, 1, none⟩ = some (.int .i64 (n : Int)) := hb.cell 1
  clear hb
  by_cases h1 : f < 0
  · go_enter Tryz.func64, Tryz.ntmps64
    go_wp2_with fail
    go_ret
    exact ⟨by rw [H.out, if_pos (.inl h1)]; rfl, rfl⟩
  · by_cases h2 : (n : Int) ≤ f
    · go_enter Tryz.func64, Tryz.ntmps64
      go_wp2_with fail
      go_ret
      exact ⟨by rw [H.out, if_pos (.inr h2)]; rfl, rfl⟩
    · go_enter Tryz.func64, Tryz.ntmps64
      go_wp2_with fail
      go_ret
      exact ⟨by rw [H.out, if_neg (by omega)]; rfl, rfl⟩
theorem frame_nil (f : Int) (W : World) :
    Calls Tryz.prog 64 #[.pointer none, .int .i64 f] W fun e w' => e = .returned (.int .i64 1) ∧ W = w' := by
  go_enter Tryz.func64, Tryz.ntmps64
  go_wp2_with fail
  go_ret
  exact ⟨rfl, rfl⟩
theorem frames_any (g : Nat) (F : Nat → Prop) (n : Nat) (S : Nat → List Nat) (W : World) (h : Mem W g F n S) :
    Calls Tryz.prog 56 #[.pointer (some ⟨g, 0, none⟩)] W fun e w' => e = .returned (.int .i64 (n : Int)) ∧ W = w' := by
  obtain ⟨mb, loc, K, h, _⟩ := h
  have c1 : W.cell? ⟨g, 1, none⟩ = some (.int .i64 (n : Int)) := h.head.cell 1
  clear h
  go_enter Tryz.func56, Tryz.ntmps56
  go_wp2_with fail
  go_ret
  exact ⟨rfl, rfl⟩
theorem frames_nil (W : World) : Calls Tryz.prog 56 #[.pointer none] W fun e w' => e = .returned (.int .i64 0) ∧ W = w' := by
  go_enter Tryz.func56, Tryz.ntmps56
  go_wp2_with fail
  go_ret
  exact ⟨rfl, rfl⟩
end Go.Proofs.YtophcgbddccpeaaGreat

/- A memory: own, load, Load, Store, Swap. -/
namespace Go.Proofs.YtophcgbddccpeaaGreat
open Go.RowKit

def zpg : Array Value := (zeroL.map bv).toArray
theorem built_pg : Tryz.prog.built 148 [] = some zpg := by kernel_rfl
theorem wl_build0 {P : Program} {ops : Array Oper} {rest : List Oper} {o : Oper} {a : Act} {w : World} {Q : Exit → Act → World → Prop} (ty : TypeId) (ho : o.op = .build ty #[]) (hg : o.guard = none) (zs : Array Value) (hz : P.built ty [] = some zs)
    (h : wpList P ops Q rest (a.put o.dst (.agg zs)) w) : wpList P ops Q (o :: rest) a w := by
  have e : (P.built ty ((#[] : Array (Nat × Operand)).map fun (i, x) => (i, a.eval x)).toList) = some zs := by simpa using hz
  refine wpList_build hg ty #[] ho (by rw [e]; rfl) ?_
  rw [e]
  exact h
theorem zpg_at {w : World} {p : Nat} (h : Blk w p 148 zpg) : PgAt w p zeroL := by
  refine ⟨List.length_replicate, fun i => by rw [zeroL_get]; decide, fun i hi => ?_, fun i => h.frozen i⟩
  rw [h.cell]
  unfold zpg
  rw [List.getElem?_toArray, List.getElem?_map, List.getD_eq_getElem?_getD, List.getElem?_eq_getElem (by rw [show zeroL.length = 4096 from List.length_replicate]; exact hi)]
  rfl
/-- The page of frame k lies in block p, to be written. -/
def Owned (w : World) (g p k n : Nat) (F : Nat → Prop) (S : Nat → List Nat) : Prop := ∃ mb loc K, MemAt w g mb loc K n S ∧ (∀ b, memF g mb loc K b → F b) ∧ k ∈ K ∧ loc k = p
def updS (S : Nat → List Nat) (k : Nat) (l : List Nat) : Nat → List Nat := fun j => if j = k then l else S j
theorem Owned.page {w : World} {g p k n : Nat} {F : Nat → Prop} {S : Nat → List Nat} (h : Owned w g p k n F S) : PgAt w p (S k) := by
  obtain ⟨mb, loc, K, h, _, hk, rfl⟩ := h
  exact h.page k hk
theorem Owned.fp {w : World} {g p k n : Nat} {F : Nat → Prop} {S : Nat → List Nat} (h : Owned w g p k n F S) : F p := by
  obtain ⟨mb, loc, K, h, hF, hk, rfl⟩ := h
  exact hF _ (.inr (.inr ⟨k, hk, rfl⟩))
theorem Owned.turn {w w' : World} {g p k n : Nat} {F : Nat → Prop} {S : Nat → List Nat} {l : List Nat} (h : Owned w g p k n F S) (hk : Keeps (fun b => b = p) w w') (hp : PgAt w' p l) : Mem w' g F n (updS S k l) := by
  obtain ⟨mb, loc, K, h, hF, hK, rfl⟩ := h
  obtain ⟨a1, a2⟩ := h.apart
  refine ⟨mb, loc, K, ⟨hk.blk h.head (fun e => (a2 k hK).1 e.symm), h.mp.keeps hk (fun e => (a2 k hK).2 e.symm), fun j hj => ?_, fun j hj => ?_, h.nd, h.lt, h.inj, h.apart, h.n1, h.n2⟩, hF⟩
  · unfold updS
    by_cases e : j = k
    · subst e; rw [if_pos rfl]; exact hp
    · rw [if_neg e]
      exact (h.page j hj).keeps hk (fun e2 => e (h.inj j k hj hK e2))
  · unfold updS
    rw [if_neg (fun e => hj (by rw [e]; exact hK))]
    exact h.zero j hj
theorem Owned.keeps {w w' : World} {g p k n : Nat} {F G : Nat → Prop} {S : Nat → List Nat} (h : Owned w g p k n F S) (hk : Keeps G w w') (hd : ∀ b, F b → ¬ G b) : Owned w' g p k n F S := by
  obtain ⟨mb, loc, K, h, hF, hK, e⟩ := h
  exact ⟨mb, loc, K, h.keeps hk (fun b hb => hd b (hF b hb)), hF, hK, e⟩
theorem Owned.mem {w : World} {g p k n : Nat} {F : Nat → Prop} {S : Nat → List Nat} (h : Owned w g p k n F S) : Mem w g F n S := by
  obtain ⟨mb, loc, K, h, hF, _⟩ := h
  exact ⟨mb, loc, K, h, hF⟩
def OwnR (g k n : Nat) (F : Nat → Prop) (S : Nat → List Nat) (W : World) (e : Ending) (w' : World) : Prop :=
  ∃ p F', e = .returned (.pointer (some ⟨p, 0, none⟩)) ∧ Owned w' g p k n F' S ∧ (∀ b, F' b → F b ∨ W.heap.size ≤ b) ∧ Keeps F W w'
set_option maxHeartbeats 1000000 in
theorem own_any (g k n : Nat) (F : Nat → Prop) (S : Nat → List Nat) (W : World) (h : Mem W g F n S) (hk : k < n) :
    Calls Tryz.prog 60 #[.pointer (some ⟨g, 0, none⟩), .int .i64 (k : Int)] W (OwnR g k n F S W) := by
  obtain ⟨mb, loc, K, h, hF⟩ := h
  have hn := h.n2
  have c0 : W.cell? ⟨g, 0, none⟩ = some (.map (some mb)) := h.head.cell 0
  have hl := h.mp.look (k := k) (by omega)
  have H := Lib.hid h
  have HF := Lib.hid hF
  by_cases hK : k ∈ K
  · rw [if_pos hK] at hl
    have HK := Lib.hid hK
    unfold ptrV at hl
    clear h hF hK
    go_enter Tryz.func60, Tryz.ntmps60
    go_wp2_with fail
    go_ret
    exact ⟨loc k, F, rfl, ⟨mb, loc, K, H.out, HF.out, HK.out, rfl⟩, fun b hb => .inl hb, Keeps.refl _ _⟩
  · rw [if_neg hK] at hl
    have HK := Lib.hid hK
    have hlen := h.len
    unfold ptrV at hl
    have hal : Below W.heap.size W (W.alloc (.cells zpg 148)) := (Below.refl _ _).alloc (Nat.le_refl _) _
    have HN : Hid (Blk (W.alloc (.cells zpg 148)) W.heap.size 148 zpg) := Lib.hid (Blkf.new_at _ _ _ _ rfl)
    have HM := Lib.hid (h.below hal)
    have c0' : (W.alloc (.cells zpg 148)).cell? ⟨g, 0, none⟩ = some (.map (some mb)) := HM.out.head.cell 0
    clear h hF hK hal
    go_enter Tryz.func60, Tryz.ntmps60
    go_wp2_with (first | ((with_reducible refine wl_build0 148 rfl rfl zpg built_pg ?_)) | ((with_reducible refine wpList_pput _ rfl (.tmp 19) (.tmp 20) (.tmp 21) rfl mb K loc k W.heap.size ?_ ?_ ?_ HM.out.mp (by omega) (by unfold maxLen; omega) ?_); exact rfl; exact rfl; exact rfl; intro w2 hp hg; have HP := Lib.hid hp; have HG := Lib.hid hg; clear hp hg))
    go_ret
    have hk1 : Keeps (fun b => b = mb) (W.alloc (.cells zpg 148)) w2 := ⟨HG.out.os, HG.out.tape, HG.out.output, HG.out.size, fun i hi hne => HG.out.block i hi (fun e => hne (by injection e))⟩
    have hmb : mb < W.heap.size := H.out.mp.lt
    have hKb : Keeps F W w2 := ((Keeps.refl F W).alloc _).trans hk1 (fun i hi => .inl (by rw [hi]; exact HF.out _ (.inr (.inl rfl))))
    have hgl := H.out.head.lt
    refine ⟨W.heap.size, fun b => F b ∨ W.heap.size ≤ b, rfl, ⟨mb, fun j => if j = k then W.heap.size else loc j, k :: K, ⟨?_, HP.out, fun j hj => ?_, fun j hj => ?_, ?_, fun j hj => ?_, fun i j hi hj e => ?_, ⟨H.out.apart.1, fun j hj => ?_⟩, H.out.n1, H.out.n2⟩, ?_, by simp, by simp⟩, fun b hb => hb, hKb⟩
    · exact hk1.blk HM.out.head (fun e => H.out.apart.1 e.symm)
    · by_cases e : j = k
      · subst e
        rw [if_pos rfl, H.out.zero j HK.out]
        exact (zpg_at HN.out).keeps hk1 (fun e => by omega)
      · rw [if_neg e]
        have hj' : j ∈ K := by simpa [e] using hj
        exact (HM.out.page j hj').keeps hk1 (H.out.apart.2 j hj').2
    · simp at hj
      exact H.out.zero j hj.2
    · exact List.nodup_cons.2 ⟨HK.out, H.out.nd⟩
    · rcases List.mem_cons.1 hj with rfl | hj
      · exact hk
      · exact H.out.lt j hj
    · by_cases ei : i = k <;> by_cases ej : j = k
      · rw [ei, ej]
      · have hj' : j ∈ K := by simpa [ej] using hj
        have := (H.out.page j hj').lt
        simp [ei, ej] at e; omega
      · have hi' : i ∈ K := by simpa [ei] using hi
        have := (H.out.page i hi').lt
        simp [ei, ej] at e; omega
      · have hi' : i ∈ K := by simpa [ei] using hi
        have hj' : j ∈ K := by simpa [ej] using hj
        simp [ei, ej] at e
        exact H.out.inj i j hi' hj' e
    · by_cases e : j = k
      · rw [if_pos e]; omega
      · rw [if_neg e]
        have hj' : j ∈ K := by simpa [e] using hj
        exact H.out.apart.2 j hj'
    · rintro b (rfl | rfl | ⟨j, hj, rfl⟩)
      · exact .inl (HF.out _ (.inl rfl))
      · exact .inl (HF.out _ (.inr (.inl rfl)))
      · by_cases e : j = k
        · simp [e]
        · have hj' : j ∈ K := by simpa [e] using hj
          simp only [if_neg e]
          exact .inl (HF.out _ (.inr (.inr ⟨j, hj', rfl⟩)))
end Go.Proofs.YtophcgbddccpeaaGreat
