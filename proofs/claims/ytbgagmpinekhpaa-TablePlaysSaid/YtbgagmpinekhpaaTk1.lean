/- Merged texts: WordA, WordP, WordB, WordD, Byte, WordE, WordF. -/
import Derived.Test.YtbgagmpinekhpaaPlanI
import Derived.Test.YtbgagmpinekhpaaRows
import Derived.WalkKit
import Derived.WalkSpells
import Derived.WalkLawsBesides
import Derived.Handy
import Derived.BigQuiet
import Derived.Lib.Hide
import Derived.IntWalk
import Derived.Laws.BitsAllLaws
import Derived.Laws.Bits64b
import Derived.Laws.MakeOwn
import Derived.Test.YtbgagmpinekhpaaReads
import Derived.Test.YtbgagmpinekhpaaMem
import Derived.Laws.BytesArg
import Derived.OpenShut
import Derived.Laws.Cover3
/- Contracts of the package word: Size, there. -/
namespace Go.Proofs.Ytbgagmpinekhpaa
open Go.RowKit

def sizeB (n : Int) : Bool := n == 1 || n == 2 || n == 4 || n == 8

theorem size_cases {n : Int} (h : sizeB n = true) : n = 1 ∨ n = 2 ∨ n = 4 ∨ n = 8 := by
  simp [sizeB] at h; omega
theorem size_not {n : Int} (h : sizeB n = false) : n ≠ 1 ∧ n ≠ 2 ∧ n ≠ 4 ∧ n ≠ 8 := by
  simp [sizeB] at h; omega

theorem size_any (n : Int) (w : World) :
    Calls Try.prog 66 #[.int .i64 n] w fun e w' => e = .returned (.bool (sizeB n)) ∧ w = w' := by
  unfold sizeB
  go_enter Try.func66, Try.ntmps66
  go_wp2
  all_goals (go_ret; refine ⟨?_, rfl⟩; first | rfl | (simp [*]; done) | (simp [*]; omega))

def thereB (n a s : Int) : Bool := sizeB s && (decide (0 ≤ a) && (decide (a ≤ n) && decide (s ≤ n - a)))

theorem there_any (A : Option Addr) (n c : Nat) (a s : Int) (w : World) (hn : n ≤ 9223372036854775807) :
    Calls Try.prog 69 #[.slice A n c, .int .i64 a, .int .i64 s] w fun e w' => e = .returned (.bool (thereB n a s)) ∧ w = w' := by
  unfold thereB
  rcases Bool.eq_false_or_eq_true (sizeB s) with h1 | h1
  all_goals
    have H := Lib.hid h1
    clear h1
    go_enter Try.func69, Try.ntmps69
    go_wp2_with (go_at_call 66; refine (size_any _ _).mono ?_; rintro e w' ⟨rfl, rfl⟩; rw [H.out])
    all_goals (go_ret; refine ⟨?_, rfl⟩; simp only [H.out]; first | rfl | (simp [*]; done) | (simp [*]; omega))
end Go.Proofs.Ytbgagmpinekhpaa

/- Plain facts on bytes and words: no program in sight. -/
namespace Go.Proofs.Ytbgagmpinekhpaa
open Go.RowKit

/-- The numbers of bytes, the least one first. -/
def leNat : List Nat → Nat
  | [] => 0
  | x :: r => x + 256 * leNat r

theorem leNat_lt : ∀ (l : List Nat), (∀ i : Nat, l.getD i 0 < 256) → leNat l < 256 ^ l.length
  | [], _ => by simp [leNat]
  | x :: r, h => by
    have h0 := h 0
    have h1 := leNat_lt r (fun i => by have := h (i + 1); simpa using this)
    simp only [leNat, List.length_cons, Nat.pow_succ]
    simp at h0
    omega

theorem getD_drop (l : List Nat) (p i : Nat) : (l.drop p).getD i 0 = l.getD (p + i) 0 := by
  simp [List.getD_eq_getElem?_getD]
theorem getD_take_lt (l : List Nat) (n i : Nat) (h : ∀ i : Nat, l.getD i 0 < 256) : (l.take n).getD i 0 < 256 := by
  by_cases hi : i < n
  · rw [List.getD_eq_getElem?_getD, List.getElem?_take, if_pos hi, ← List.getD_eq_getElem?_getD]; exact h i
  · rw [List.getD_eq_getElem?_getD, List.getElem?_take, if_neg hi]; decide
theorem getD_drop_lt (l : List Nat) (n : Nat) (h : ∀ i : Nat, l.getD i 0 < 256) (i : Nat) : (l.drop n).getD i 0 < 256 := by
  rw [getD_drop]; exact h _

theorem leNat_take_lt (l : List Nat) (n : Nat) (h : ∀ i : Nat, l.getD i 0 < 256) : leNat (l.take n) < 256 ^ n := by
  have h1 := leNat_lt (l.take n) (fun i => getD_take_lt l n i h)
  have h2 : 256 ^ (l.take n).length ≤ 256 ^ n := Nat.pow_le_pow_right (by decide) (by simp; omega)
  omega

theorem or_byte (v b : Nat) (hb : b < 256) : v * 256 ||| b = b + 256 * v := by
  have h := Nat.shiftLeft_add_eq_or_of_lt (b := b) (i := 8) (by simpa using hb) v
  rw [Nat.shiftLeft_eq] at h
  have e : v * 2 ^ 8 = v * 256 := rfl
  rw [e] at h
  omega

theorem u64_or_byte (v b : Nat) (hv : v < 72057594037927936) (hb : b < 256) :
    bits .or .u64 (IntKind.u64.wrap ((v : Int) * 256)) (IntKind.u64.wrap (b : Int)) = ((b + 256 * v : Nat) : Int) := by
  rw [IntWalk.u64_in _ (by omega), IntWalk.u64_in _ (by omega)]
  have e : ((v : Int) * 256) = ((v * 256 : Nat) : Int) := by omega
  rw [e, bits_or_u64_nat _ _ (by omega) (by omega), or_byte v b hb]

theorem leNat_step (l : List Nat) (k n : Nat) (h : k < l.length) : leNat ((l.drop k).take (n + 1)) = l.getD k 0 + 256 * leNat ((l.drop (k + 1)).take n) := by
  rw [List.drop_eq_getElem_cons h, List.take_succ_cons]
  simp [leNat, h]

theorem get_round (l : List Nat) (p q j : Nat) (hl : ∀ i : Nat, l.getD i 0 < 256) (hq : q ≤ 8) (hj : j ≤ q) (h0 : 1 ≤ j) (hpq : p + q ≤ l.length) :
    bits .or .u64 (IntKind.u64.wrap (((leNat ((l.drop (p + j)).take (q - j)) : Nat) : Int) * 256)) (IntKind.u64.wrap ((l[p + (j - 1)]?.getD 0 : Nat) : Int)) =
      ((leNat (((l.drop p).drop (j - 1)).take (q - (j - 1))) : Nat) : Int) := by
  have h1 := leNat_take_lt (l.drop (p + j)) (q - j) (getD_drop_lt l _ hl)
  have h2 : 256 ^ (q - j) ≤ 256 ^ 7 := Nat.pow_le_pow_right (by decide) (by omega)
  have h3 := hl (p + (j - 1))
  rw [List.getD_eq_getElem?_getD] at h3
  rw [u64_or_byte _ _ (by omega) h3, List.drop_drop, show q - (j - 1) = (q - j) + 1 by omega, leNat_step l _ _ (by omega), List.getD_eq_getElem?_getD, show p + (j - 1) + 1 = p + j by omega]

theorem leNat_snoc : ∀ (l : List Nat) (j : Nat), j < l.length → leNat (l.take (j + 1)) = leNat (l.take j) + 256 ^ j * l.getD j 0
  | [], j, h => by simp at h
  | x :: r, 0, _ => by simp [leNat]
  | x :: r, j + 1, h => by
    have ih := leNat_snoc r j (by simpa using h)
    simp only [List.take_succ_cons, leNat, List.getD_cons_succ] at *
    rw [ih, Nat.mul_add, ← Nat.mul_assoc, Nat.pow_succ, Nat.mul_comm (256 ^ j) 256, Nat.add_assoc]

theorem rget_round1 (j : Nat) : IntKind.u64.wrap ((256 : Int) ^ j % 18446744073709551616 * 256) = ((256 ^ (j + 1) % 18446744073709551616 : Nat) : Int) := by
  rw [IntKind.wrap_u64, Int.natCast_emod, Int.natCast_pow, Int.pow_succ]
  have e : ((256 : Nat) : Int) = 256 := rfl
  rw [e]
  generalize (256 : Int) ^ j = P
  omega

theorem rget_round2 (l : List Nat) (p q j : Nat) (hl : ∀ i : Nat, l.getD i 0 < 256) (hq : q ≤ 8) (hj : j < q) (hpq : p + q ≤ l.length) :
    IntKind.u64.wrap ((leNat ((l.drop p).take j) : Nat) + IntKind.u64.wrap (IntKind.u64.wrap ((l[p + j]?.getD 0 : Nat) : Int) * ((256 : Int) ^ j % 18446744073709551616))) = ((leNat ((l.drop p).take (j + 1)) : Nat) : Int) := by
  have h1 := leNat_take_lt (l.drop p) j (getD_drop_lt l _ hl)
  have h2 : 256 ^ j ≤ 256 ^ 7 := Nat.pow_le_pow_right (by decide) (by omega)
  have h3 := hl (p + j)
  rw [leNat_snoc _ _ (by simp; omega), getD_drop]
  rw [List.getD_eq_getElem?_getD] at h3 ⊢
  have e : ((256 : Int) ^ j % 18446744073709551616) = ((256 ^ j : Nat) : Int) := by
    have : ((256 ^ j : Nat) : Int) = (256 : Int) ^ j := by simp
    rw [← this]; omega
  rw [e]
  generalize hx : leNat ((l.drop p).take j) = x at *
  generalize hb : l[p + j]?.getD 0 = b at *
  generalize hP : 256 ^ j = P at *
  rw [IntWalk.u64_in (b : Int) (by omega)]
  have h4 : b * P ≤ 255 * P := Nat.mul_le_mul_right P (by omega)
  have e2 : (b : Int) * (P : Int) = ((b * P : Nat) : Int) := by simp
  rw [e2, Nat.mul_comm P b]
  generalize b * P = bp at *
  rw [IntWalk.u64_in (bp : Int) (by omega), IntWalk.u64_in _ (by omega)]
  omega

/-! Bits. -/
theorem or_full (h j : Nat) (hh : h < 2 ^ j) : h ||| (2 ^ j - 1) = 2 ^ j - 1 := by
  apply Nat.eq_of_testBit_eq
  intro i
  rw [Nat.testBit_or, Nat.testBit_two_pow_sub_one]
  by_cases hi : i < j
  · simp [hi]
  · have : h.testBit i = false := Nat.testBit_lt_two_pow (Nat.lt_of_lt_of_le hh (Nat.pow_le_pow_right (by decide) (by omega)))
    simp [hi, this]
theorem or_high (v k j : Nat) (hv : v < 2 ^ (k + j)) : v ||| (2 ^ (k + j) - 2 ^ k) = v % 2 ^ k + (2 ^ (k + j) - 2 ^ k) := by
  have e : 2 ^ (k + j) - 2 ^ k = 2 ^ k * (2 ^ j - 1) := by rw [Nat.pow_add, Nat.mul_sub, Nat.mul_one]
  rw [e]
  have h1 : (v ||| 2 ^ k * (2 ^ j - 1)) % 2 ^ k = v % 2 ^ k := by
    rw [Nat.or_mod_two_pow, Nat.mul_mod_right, Nat.or_zero]
  have h2 : (v ||| 2 ^ k * (2 ^ j - 1)) / 2 ^ k = 2 ^ j - 1 := by
    rw [Nat.or_div_two_pow, Nat.mul_div_cancel_left _ (Nat.two_pow_pos k)]
    exact or_full _ _ (Nat.div_lt_of_lt_mul (by rw [← Nat.pow_add]; exact hv))
  have h3 := Nat.div_add_mod (v ||| 2 ^ k * (2 ^ j - 1)) (2 ^ k)
  rw [h1, h2] at h3
  omega
theorem and_pow (v k : Nat) : v &&& 2 ^ k = v / 2 ^ k % 2 * 2 ^ k := by
  apply Nat.eq_of_testBit_eq
  intro i
  rw [Nat.testBit_and, Nat.testBit_two_pow, Nat.mul_comm, Nat.testBit_two_pow_mul]
  by_cases h : k = i
  · subst h
    rw [Nat.testBit_eq_decide_div_mod_eq]
    rcases Nat.mod_two_eq_zero_or_one (v / 2 ^ k) with h | h <;> simp [h]
  · by_cases hi : k ≤ i
    · have : (v / 2 ^ k % 2).testBit (i - k) = false := Nat.testBit_lt_two_pow (Nat.lt_of_lt_of_le (Nat.mod_lt _ (by decide)) (by
        have : 2 ^ 1 ≤ 2 ^ (i - k) := Nat.pow_le_pow_right (by decide) (by omega)
        simpa using this))
      simp [h, hi, this]
    · simp [h, hi]

/-- The mask of a size. -/
def maskV (s : Int) : Nat := if s = 1 then 255 else if s = 2 then 65535 else if s = 4 then 4294967295 else 18446744073709551615
def cutV (v : Nat) (s : Int) : Nat := if s = 1 then v % 256 else if s = 2 then v % 65536 else if s = 4 then v % 4294967296 else v
def signV (v : Nat) (s : Int) : Nat :=
  if s = 1 then (if v % 256 < 128 then v % 256 else v % 256 + 18446744073709551360)
  else if s = 2 then (if v % 65536 < 32768 then v % 65536 else v % 65536 + 18446744073709486080)
  else if s = 4 then (if v % 4294967296 < 2147483648 then v % 4294967296 else v % 4294967296 + 18446744069414584320)
  else v
theorem cutV_lt (v : Nat) (s : Int) (h : v < 18446744073709551616) : cutV v s < 18446744073709551616 := by
  unfold cutV; repeat' split
  all_goals omega
theorem signV_lt (v : Nat) (s : Int) (h : v < 18446744073709551616) : signV v s < 18446744073709551616 := by
  unfold signV; repeat' split
  all_goals omega
theorem maskV_lt (s : Int) : maskV s < 18446744073709551616 := by
  unfold maskV; repeat' split
  all_goals omega
theorem cut_and (v : Nat) (s : Int) (h : v < 18446744073709551616) : v &&& maskV s = cutV v s := by
  unfold maskV cutV
  repeat' split
  · exact Nat.and_two_pow_sub_one_eq_mod v 8
  · exact Nat.and_two_pow_sub_one_eq_mod v 16
  · exact Nat.and_two_pow_sub_one_eq_mod v 32
  · have := Nat.and_two_pow_sub_one_eq_mod v 64
    rw [show (2 ^ 64 - 1 : Nat) = 18446744073709551615 from rfl] at this
    rw [this]; exact Nat.mod_eq_of_lt h

def signBit (s : Int) : Nat := if s = 1 then 128 else if s = 2 then 32768 else if s = 4 then 2147483648 else 9223372036854775808
theorem xor_mask (s : Int) : maskV s ^^^ maskV s / 2 = signBit s := by
  unfold maskV signBit
  repeat' split
  all_goals decide
theorem sign_off (v : Nat) (s : Int) (h : v < 18446744073709551616) (hb : v &&& signBit s = 0) : v &&& maskV s = signV v s := by
  rw [cut_and v s h]
  unfold signBit at hb
  unfold cutV signV
  by_cases h1 : s = 1
  · simp only [h1, ite_true] at *
    have e := and_pow v 7
    simp at e; rw [e] at hb
    rw [if_pos]; omega
  · by_cases h2 : s = 2
    · simp only [h2, ite_true] at *
      have e := and_pow v 15
      simp at e; simp at hb; rw [e] at hb
      simp; omega
    · by_cases h4 : s = 4
      · simp only [h4, ite_true] at *
        have e := and_pow v 31
        simp at e; simp at hb; rw [e] at hb
        simp; omega
      · simp [h1, h2, h4]
theorem sign_on (v : Nat) (s : Int) (h : v < 18446744073709551616) (hb : v &&& signBit s ≠ 0) : v ||| (18446744073709551615 - maskV s) = signV v s := by
  unfold signBit at hb
  unfold maskV signV
  by_cases h1 : s = 1
  · simp only [h1, ite_true] at *
    have e := and_pow v 7
    simp at e; rw [e] at hb
    have o := or_high v 8 56 h
    simp at o ⊢; rw [o, if_neg]; omega
  · by_cases h2 : s = 2
    · simp only [h2, ite_true] at *
      have e := and_pow v 15
      simp at e; simp at hb; rw [e] at hb
      have o := or_high v 16 48 h
      simp at o ⊢; rw [o, if_neg]; omega
    · by_cases h4 : s = 4
      · simp only [h4, ite_true] at *
        have e := and_pow v 31
        simp at e; simp at hb; rw [e] at hb
        have o := or_high v 32 32 h
        simp at o ⊢; rw [o, if_neg]; omega
      · simp [h1, h2, h4]
end Go.Proofs.Ytbgagmpinekhpaa

/- Contract of word.Get. -/
namespace Go.Proofs.Ytbgagmpinekhpaa
open Go.RowKit

/-- A slice reads as bytes. -/
def Bts (w : World) (A : Option Addr) (l : List Nat) : Prop :=
  (∀ i, l.getD i 0 < 256) ∧ (0 < l.length → ∃ b o, A = some ⟨b, o, none⟩ ∧ ∀ i, i < l.length → w.cell? ⟨b, o + i, none⟩ = some (.int .u8 ((l.getD i 0 : Nat) : Int)))

def getV (l : List Nat) (a s : Int) : Nat := leNat ((l.drop a.toNat).take s.toNat)

theorem there_of {n a s : Int} (h : thereB n a s = true) : sizeB s = true ∧ 0 ≤ a ∧ a ≤ n ∧ s ≤ n - a := by
  simp [thereB] at h; exact ⟨h.1, h.2.1, h.2.2.1, h.2.2.2⟩

theorem get_yes (A : Option Addr) (l : List Nat) (c : Nat) (a s : Int) (w : World) (hn : l.length ≤ 9223372036854775807) (hB : Bts w A l) (ht : thereB l.length a s = true) :
    Calls Try.prog 68 #[.slice A l.length c, .int .i64 a, .int .i64 s] w fun e w' => e = .returned (.tuple #[.int .u64 (getV l a s), .bool true]) ∧ w = w' := by
  have HT := Lib.hid ht
  obtain ⟨h1, h2, h3, h4⟩ := there_of ht
  clear ht
  have h5 := size_cases h1
  clear h1
  obtain ⟨p, rfl⟩ := Int.eq_ofNat_of_zero_le h2
  obtain ⟨q, rfl⟩ := Int.eq_ofNat_of_zero_le (show 0 ≤ s by omega)
  have hq : q ≤ 8 := by omega
  have hq1 : 1 ≤ q := by omega
  have hpq : p + q ≤ l.length := by omega
  clear h2 h3 h4 h5
  obtain ⟨hlt, hB2⟩ := hB
  obtain ⟨b, o, rfl, hc⟩ := hB2 (by omega)
  have HC := Lib.hid hc
  have HL := Lib.hid hlt
  clear hc hB2 hlt
  go_enter Try.func68, Try.ntmps68
  go_wp2_with (go_at_call 69; refine (there_any _ _ _ _ _ _ hn).mono ?_; rintro e w' ⟨rfl, rfl⟩; rw [HT.out])
  go_loop [8, 9] (fun v i => ∃ j : Nat, j ≤ q ∧ i = .int .i64 ((j : Int) - 1) ∧ v = .int .u64 (leNat (((l.drop p).drop j).take (q - j)) : Nat)) (fun _ i => (intOf i + 1).toNat)
  case atStart => exact ⟨q, Nat.le_refl _, rfl, by simp [leNat]⟩
  case round =>
    obtain ⟨j, hj, rfl, rfl⟩ := hrel
    by_cases h0 : 1 ≤ j
    · have hcell := HC.out (p + (j - 1)) (by omega)
      have e1 : ((j : Int) - 1) = ((j - 1 : Nat) : Int) := by omega
      go_wp2
      exact ⟨⟨j - 1, by omega, rfl, by rw [get_round l p q j HL.out hq hj h0 hpq]⟩, by simp [intOf]; omega⟩
    · obtain rfl : j = 0 := by omega
      go_wp2
      go_ret2
      exact ⟨by simp [getV], rfl⟩

theorem get_no (A : Option Addr) (n : Nat) (c : Nat) (a s : Int) (w : World) (hn : n ≤ 9223372036854775807) (ht : thereB n a s = false) :
    Calls Try.prog 68 #[.slice A n c, .int .i64 a, .int .i64 s] w fun e w' => e = .returned (.tuple #[.int .u64 0, .bool false]) ∧ w = w' := by
  have HT := Lib.hid ht
  clear ht
  go_enter Try.func68, Try.ntmps68
  go_wp2_with (go_at_call 69; refine (there_any _ _ _ _ _ _ hn).mono ?_; rintro e w' ⟨rfl, rfl⟩; rw [HT.out])
  go_ret2
  exact ⟨rfl, rfl⟩
end Go.Proofs.Ytbgagmpinekhpaa

/- Contracts of word.Put and word.Bytes. -/
namespace Go.Proofs.Ytbgagmpinekhpaa
open Go.RowKit

def byteOf (v i : Nat) : Nat := v / 256 ^ i % 256

structure Puts (w w' : World) (b k : Nat) (v n : Nat) : Prop where
  grown : w.grownBy w' (some b)
  size : w'.heap.size = w.heap.size
  new : ∀ i, i < n → w'.cell? ⟨b, k + i, none⟩ = some (.int .u8 ((byteOf v i : Nat) : Int))
  old : ∀ p : Addr, (p.block ≠ b ∨ p.off < k ∨ k + n ≤ p.off) → w'.cell? p = w.cell? p
  frozen : ∀ p, w'.frozen? p = w.frozen? p

theorem byte_walk (v j : Nat) : ((v : Int) / 2 ^ (8 * j) % 256) = ((byteOf v j : Nat) : Int) := by
  have e : ((2 : Int) ^ (8 * j)) = ((256 ^ j : Nat) : Int) := by
    rw [Int.pow_mul]; simp
  rw [e, byteOf]; simp

theorem Puts.step {w wr : World} {b k v j : Nat} (h : Puts w wr b k v j) (hu : (wr.cell? ⟨b, k + j, none⟩).isSome = true) :
    Puts w (wr.setCell ⟨b, k + j, none⟩ (.int .u8 ((byteOf v j : Nat) : Int))) b k v (j + 1) := by
  refine ⟨⟨h.grown.os, h.grown.tape, h.grown.output, by simpa using h.grown.size, fun i hi hne => ?_⟩, by simpa using h.size, fun i hi => ?_, fun p hp => ?_, fun p => by simpa using h.frozen p⟩
  · rw [Below.heap_setCell _ _ _ _ (fun e => hne (by rw [e]))]; exact h.grown.block i hi hne
  · by_cases e : i = j
    · subst e; exact World.cell?_setCell_same' _ _ _ hu
    · rw [World.cell?_setCell_other _ _ _ _ (by intro he; injection he; omega)]; exact h.new i (by omega)
  · rw [World.cell?_setCell_other _ _ _ _ (by rintro rfl; simp at hp; omega)]; exact h.old p (by omega)

theorem put_yes (b o n : Nat) (c : Nat) (a s : Int) (v : Nat) (w : World) (hv : v < 18446744073709551616) (hn : n ≤ 9223372036854775807)
    (hc : ∀ i, i < n → ∃ u, w.cell? ⟨b, o + i, none⟩ = some u) (hf : ∀ i, i < n → w.frozen? ⟨b, o + i, none⟩ = false) (ht : thereB n a s = true) :
    Calls Try.prog 49 #[.slice (some ⟨b, o, none⟩) n c, .int .i64 a, .int .i64 s, .int .u64 v] w fun e w' => e = .returned (.bool true) ∧ Puts w w' b (o + a.toNat) v s.toNat := by
  have HT := Lib.hid ht
  obtain ⟨h1, h2, h3, h4⟩ := there_of ht
  clear ht
  have h5 := size_cases h1
  clear h1
  obtain ⟨p, rfl⟩ := Int.eq_ofNat_of_zero_le h2
  obtain ⟨q, rfl⟩ := Int.eq_ofNat_of_zero_le (show 0 ≤ s by omega)
  have hq : q ≤ 8 := by omega
  have hq1 : 1 ≤ q := by omega
  have hpq : p + q ≤ n := by omega
  clear h2 h3 h4 h5
  have HC := Lib.hid hc
  have HF := Lib.hid hf
  clear hc hf
  go_enter Try.func49, Try.ntmps49
  go_wp2_with (go_at_call 69; refine (there_any _ _ _ _ _ _ hn).mono ?_; rintro e w' ⟨rfl, rfl⟩; rw [HT.out])
  go_loopw [16] (fun i wr => ∃ j : Nat, j ≤ q ∧ i = .int .i64 j ∧ Puts w wr b (o + p) v j) (fun i _ => (q - (intOf i)).toNat)
  case atStart => exact ⟨0, by omega, rfl, ⟨World.grownBy.refl _ _, rfl, fun i hi => by omega, fun _ _ => rfl, fun _ => rfl⟩⟩
  case round =>
    obtain ⟨j, hj, rfl, hP⟩ := hrel
    have HP := Lib.hid hP
    clear hP
    by_cases h0 : j < q
    · have hcell := HP.out.old ⟨b, o + (p + j), none⟩ (.inr (.inr (by show o + p + j ≤ o + (p + j); omega)))
      obtain ⟨u, hu⟩ := HC.out (p + j) (by omega)
      rw [hu] at hcell
      clear hu
      have hfz := HP.out.frozen ⟨b, o + (p + j), none⟩
      rw [HF.out (p + j) (by omega)] at hfz
      go_wp2
      rw [byte_walk, show o + (p + j) = o + p + j by omega]
      exact ⟨⟨j + 1, by omega, by go_num, HP.out.step (by rw [show o + p + j = o + (p + j) by omega, hcell]; rfl)⟩, by simp [intOf]; omega⟩
    · obtain rfl : j = q := by omega
      go_wp2
      go_ret
      exact ⟨rfl, HP.out⟩

theorem put_no (A : Option Addr) (n : Nat) (c : Nat) (a s v : Int) (w : World) (hn : n ≤ 9223372036854775807) (ht : thereB n a s = false) :
    Calls Try.prog 49 #[.slice A n c, .int .i64 a, .int .i64 s, .int .u64 v] w fun e w' => e = .returned (.bool false) ∧ w = w' := by
  have HT := Lib.hid ht
  clear ht
  go_enter Try.func49, Try.ntmps49
  go_wp2_with (go_at_call 69; refine (there_any _ _ _ _ _ _ hn).mono ?_; rintro e w' ⟨rfl, rfl⟩; rw [HT.out])
  go_ret
  exact ⟨rfl, rfl⟩

/-- The bytes of a word. -/
def bytesOf (v : Nat) (s : Int) : List Nat := if sizeB s then (List.range s.toNat).map (byteOf v) else []

/-- A slice of bytes is handed back; nothing that was there has changed. -/
def RetB (l : List Nat) (w : World) (e : Ending) (w' : World) : Prop :=
  ∃ A c, e = .returned (.slice A l.length c) ∧ Bts w' A l ∧ (∀ a, A = some a → a.block < w'.heap.size) ∧ Below w.heap.size w w'

theorem byteOf_lt (v i : Nat) : byteOf v i < 256 := Nat.mod_lt _ (by decide)
theorem bytesOf_lt (v : Nat) (s : Int) (i : Nat) : (bytesOf v s).getD i 0 < 256 := by
  unfold bytesOf
  split
  · rw [List.getD_eq_getElem?_getD, List.getElem?_map]
    cases h : (List.range s.toNat)[i]? with
    | none => simp
    | some k => simpa using byteOf_lt v k
  · simp
theorem bytesOf_length (v q : Nat) (h : sizeB q = true) : (bytesOf v q).length = q := by simp [bytesOf, h]
theorem bytesOf_get (v q i : Nat) (h : sizeB q = true) (hi : i < q) : (bytesOf v q).getD i 0 = byteOf v i := by
  simp [bytesOf, h, List.getElem?_range hi]

theorem there_all (q : Nat) (h : sizeB q = true) : thereB q 0 q = true := by simp [thereB, h]

theorem info5 : (Try.prog.info? 5).map (fun i => (i.zero, i.size, i.bytes)) = some (some (.int .u8 0), 1, 1) := by kernel_rfl

theorem made_byte (q i : Nat) (hi : i < q) : (madeCells #[Value.int IntKind.u8 0] q)[i]? = some (.int .u8 0) := by
  have : [Value.int IntKind.u8 0][i % 1]? = some (Value.int IntKind.u8 0) := by rw [Nat.mod_one]; rfl
  unfold madeCells
  simp [hi, this]
end Go.Proofs.Ytbgagmpinekhpaa

/- Slices of bytes: how they read, how a row of the call's own reads, cuts, texts. -/
namespace Go.Proofs.Ytbgagmpinekhpaa
open Go.RowKit Go.ChangeShapes

def bv (n : Nat) : Value := .int .u8 (n : Int)
theorem one_u8 (x : Int) : ∀ u ∈ [Value.int .u8 x], u.oneCell' = true := by
  intro u hu; simp at hu; subst hu; rfl
theorem own_below {w w' : World} {base : Nat} {e : TypeId} {size : Nat} {v : Value} {n : Nat} {xs : List Value} (h : w.ownsRow base e size v n xs) (hb : Below w.heap.size w w') : w'.ownsRow base e size v n xs := by
  refine h.kept (row := none) ⟨hb.os, hb.tape, hb.output, hb.size, fun k hk _ => hb.block k hk⟩ ?_
  cases hv : v.ownBlock with
  | none => exact .inl rfl
  | some g => exact .inr (by simp)
theorem below_grown {w wr w' : World} {base : Nat} {e : TypeId} {size : Nat} {v : Value} {n : Nat} {xs : List Value} (h : wr.ownsRow base e size v n xs) (hb : Below base w wr) (hg : wr.grownBy w' v.ownBlock) (hB : base ≤ wr.heap.size) : Below base w w' :=
  hb.grown hg hB (fun k hk => (h.lt k hk).1)
/-- A slice of bytes of the call's own is handed back. -/
def RetOwn (l : List Nat) (w : World) (e : Ending) (w' : World) : Prop :=
  ∃ v, e = .returned v ∧ w'.ownsRow w.heap.size 5 1 v l.length (l.map bv) ∧ Below w.heap.size w w'
/-- An owned row of bytes reads as bytes. -/
theorem bts_own {w : World} {base n : Nat} {v : Value} {l : List Nat} (h : w.ownsRow base 5 1 v n (l.map bv)) (hl : ∀ i : Nat, l.getD i 0 < 256) (hn : n = l.length) :
    ∃ A c, v = .slice A l.length c ∧ Bts w A l ∧ (∀ a, A = some a → a.block < w.heap.size) := by
  subst hn
  rcases h.2 with ⟨rfl, hx⟩ | ⟨g, cap, cur, rfl, _, hh, _⟩
  · have : l = [] := by simpa using hx
    subst this
    exact ⟨none, 0, rfl, ⟨hl, fun h => by simp at h⟩, fun a ha => by cases ha⟩
  · have hlt := (h.lt g rfl).2
    refine ⟨_, cap, rfl, ⟨hl, fun _ => ⟨g, 0, rfl, fun i hi => ?_⟩⟩, fun a ha => by injection ha with ha; subst ha; exact hlt⟩
    have := h.cells (g := g) rfl i (bv (l.getD i 0)) (by rw [List.getElem?_map, List.getD_eq_getElem?_getD, List.getElem?_eq_getElem hi]; rfl)
    by_cases h0 : i = 0
    · subst h0; simpa [Addr.add, bv] using this
    · simpa [Addr.add, bv, h0] using this
theorem bts_below {w w' : World} {A : Option Addr} {l : List Nat} (h : Bts w A l) (hb : Below w.heap.size w w') : Bts w' A l := by
  refine ⟨h.1, fun hl => ?_⟩
  obtain ⟨b, o, e, hc⟩ := h.2 hl
  have := cell_lt (hc 0 hl)
  exact ⟨b, o, e, fun i hi => by rw [hb.cell (p := ⟨b, o + i, none⟩) this]; exact hc i hi⟩
def strB (l : List Nat) : ByteArray := ⟨(l.map UInt8.ofNat).toArray⟩
theorem conv_bts {w : World} {A : Option Addr} {l : List Nat} {n c : Nat} (h : Bts w A l) (hn : l.length = n) :
    (convert 102 9 (.slice A n c)).run Try.prog w = .ok (.string (strB l)) w := by
  subst hn
  have hs := Try.underlying102
  have he := Try.underlying5
  have hd := Try.underlying9
  rcases Nat.eq_zero_or_pos l.length with h0 | h0
  · obtain rfl : l = [] := List.eq_nil_of_length_eq_zero h0
    cases A with
    | none => exact run_convert_bytes_nil w _ _ hs he 0 c _ hd
    | some a =>
      have hl : (loadCells a 0).run Try.prog w = .ok (([] : List Int).map (Value.int .u8)).toArray w := by
        have := run_loadCells_list (P := Try.prog) w a [] (fun j v hj => by simp at hj)
        simpa using this
      rw [run_convert_bytes_string w _ _ _ _ _ c hs he hd]
      show (Conv.bytesToString (.slice (some a) 0 c)).run Try.prog w = _
      rw [run_bytesToString w a 0 c [] hl]
      rfl
  · obtain ⟨b, o, rfl, hc⟩ := h.2 h0
    have := run_convert_bytes_arg (P := Try.prog) w _ _ hs he b o l.length c (l.map Int.ofNat) (by simp) (fun i hi => by
      rw [hc i hi]
      simp [List.getElem?_eq_getElem hi]) _ hd
    rw [this]
    simp [strOfNums, strB, Function.comp_def]
theorem bts_new3 (w : World) (x y z : Nat) (hx : x < 256) (hy : y < 256) (hz : z < 256) : Bts (w.alloc (.cells #[.int .u8 x, .int .u8 y, .int .u8 z] 5)) (some ⟨w.heap.size, 0, none⟩) [x, y, z] := by
  refine ⟨fun i => ?_, fun _ => ⟨_, _, rfl, fun i hi => ?_⟩⟩
  · match i with
    | 0 => exact hx
    | 1 => exact hy
    | 2 => exact hz
    | i + 3 => simp
  · rw [World.cell?_alloc_new]
    match i, hi with
    | 0, _ => rfl
    | 1, _ => rfl
    | 2, _ => rfl
    | i + 3, hi => exact absurd hi (by simp)
theorem bts_of_row {w : World} {a : Option Addr} {len cap : Nat} {zs : List Int} (h : IsRow .u8 w a len cap zs) : ∃ l : List Nat, l.length = len ∧ Bts w a l ∧ len ≤ 9223372036854775807 := by
  rcases h with ⟨rfl, rfl, rfl, rfl⟩ | ⟨x, rfl, hl, hm, hz, hc, hw⟩
  · exact ⟨[], rfl, ⟨fun i => by simp, fun h => by simp at h⟩, by omega⟩
  · unfold maxLen at hm
    have hlen : ((zs.take len).map Int.toNat).length = len := by simp; omega
    have hget : ∀ i, i < len → ((zs.take len).map Int.toNat).getD i 0 = (zs.getD i 0).toNat := fun i hi => by
      simp [List.getD_eq_getElem?_getD, List.getElem?_take, hi]
      cases zs[i]? <;> simp
    have hb : ∀ i, i < len → 0 ≤ zs.getD i 0 ∧ zs.getD i 0 < 256 := fun i hi => u8_of_wf (hw _ (by
      rw [List.getD_eq_getElem?_getD, List.getElem?_eq_getElem (by omega)]; exact List.getElem_mem _))
    refine ⟨(zs.take len).map Int.toNat, hlen, ⟨fun i => ?_, fun h0 => ?_⟩, by omega⟩
    · rcases Nat.lt_or_ge i len with hi | hi
      · rw [hget i hi]; have := hb i hi; omega
      · rw [List.getD_eq_getElem?_getD, List.getElem?_eq_none (by omega)]; simp
    · rw [hlen] at h0
      have h00 := hc 0 (by omega)
      obtain ⟨b, o, spot⟩ := x
      have hspot : spot = none := by simpa [Addr.add] using World.cell?_spot h00
      subst hspot
      refine ⟨b, o, rfl, fun i hi => ?_⟩
      rw [hlen] at hi
      have := hc i (by omega)
      rw [hget i hi, Int.toNat_of_nonneg (hb i hi).1]
      have e : (⟨b, o, none⟩ : Addr).add i = ⟨b, o + i, none⟩ := by unfold Addr.add; split <;> simp_all
      rw [← e]; exact this
theorem reads_bts {w : World} {A : Option Addr} {l : List Nat} (h : Bts w A l) : Reads w w.heap.size 1 A l.length (l.map bv) := by
  refine ⟨by simp, fun hl => ?_⟩
  obtain ⟨b, o, rfl, hc⟩ := h.2 hl
  refine ⟨_, rfl, cell_lt (hc 0 hl), fun j u hu => ?_⟩
  have hj : j < l.length := by
    rcases Nat.lt_or_ge j l.length with h1 | h1
    · exact h1
    · rw [List.getElem?_eq_none (by simpa using h1)] at hu; cases hu
  have e : (⟨b, o, none⟩ : Addr).add j = ⟨b, o + j, none⟩ := by unfold Addr.add; split <;> simp_all
  rw [e, hc j hj]
  rw [List.getElem?_map, List.getElem?_eq_getElem hj] at hu
  simp at hu
  rw [← hu, List.getD_eq_getElem?_getD, List.getElem?_eq_getElem hj]
  rfl
theorem own_frozen {w : World} {base n : Nat} {e : TypeId} {v : Value} {xs : List Value} (h : w.ownsRow base e 1 v n xs) {A : Addr} {m c : Nat} (hv : v = .slice (some A) m c) (i : Nat) : w.frozen? ⟨A.block, i, none⟩ = false := by
  rcases h.2 with ⟨rfl, _⟩ | ⟨g, cap, cur, rfl, _, hh, _⟩
  · cases hv
  · injection hv with h1 _ _
    injection h1 with h1
    subst h1
    simp [World.frozen?, hh]
theorem one_bv (l : List Nat) : ∀ u ∈ l.map bv, u.oneCell' = true := by
  intro u hu
  obtain ⟨x, _, rfl⟩ := List.mem_map.1 hu
  rfl
theorem bts_cut {w : World} {A : Option Addr} {l : List Nat} {k c : Nat} (h : Bts w A l) (hk : k ≤ l.length) (hc : l.length ≤ c) : Bts w (if c = k then A else A.map (·.add (k * 1))) (l.drop k) := by
  refine ⟨fun i => getD_drop_lt l k h.1 i, fun hl => ?_⟩
  have hk2 : k < l.length := by simp at hl; omega
  obtain ⟨b, o, rfl, hcell⟩ := h.2 (by omega)
  rw [if_neg (by omega)]
  refine ⟨b, o + k, by simp [Addr.add], fun i hi => ?_⟩
  rw [getD_drop, show o + k + i = o + (k + i) by omega]
  exact hcell _ (by simp at hi; omega)
theorem bts_take {w : World} {A : Option Addr} {l : List Nat} {k : Nat} (h : Bts w A l) : Bts w A (l.take k) := by
  refine ⟨fun i => getD_take_lt l k i h.1, fun hl => ?_⟩
  obtain ⟨b, o, rfl, hcell⟩ := h.2 (by simp at hl; omega)
  refine ⟨b, o, rfl, fun i hi => ?_⟩
  rw [List.length_take] at hi
  rw [List.getD_eq_getElem?_getD, List.getElem?_take, if_pos (by omega), ← List.getD_eq_getElem?_getD]
  exact hcell i (by omega)
theorem strB_append (a b : List Nat) : strB a ++ strB b = strB (a ++ b) := by
  apply ByteArray.ext
  simp [strB]
theorem strB_size (a : List Nat) : (strB a).size = a.length := by simp [strB, ByteArray.size]
theorem slice_eq_nil {P : Program} (w : World) (t e : TypeId) (a : Option Addr) (l c : Nat) (h : P.underlying t = some (.slice e)) : (binOp .eql t (.slice a l c) (.slice none 0 0)).run P w = .ok (.bool a.isNone) w := by
  simp [binOp, run_equal_slice_nil, h, Sem.run_bind, Result.andThen]
end Go.Proofs.Ytbgagmpinekhpaa

/- Contract of word.Aligned. -/
namespace Go.Proofs.Ytbgagmpinekhpaa
open Go.RowKit

def alignedB (v : Nat) (s : Int) : Bool := sizeB s && v % s.toNat == 0

theorem aligned_eq (v k : Nat) (m : Int) (hk : k < 63) (hm : m = ((2 ^ k - 1 : Nat) : Int)) (hv : v < 18446744073709551616) : (bits .and .u64 (v : Int) m == 0) = (v % 2 ^ k == 0) := by
  have h1 : 2 ^ k ≤ 2 ^ 63 := Nat.pow_le_pow_right (by decide) (by omega)
  rw [hm, bits_and_u64_nat _ _ hv (by omega), Nat.and_two_pow_sub_one_eq_mod]
  by_cases h : v % 2 ^ k = 0
  · rw [h]; rfl
  · have h2 : ((v % 2 ^ k : Nat) : Int) ≠ 0 := by omega
    rw [beq_false_of_ne h2, beq_false_of_ne h]

theorem aligned_any (v : Nat) (s : Int) (w : World) (hv : v < 18446744073709551616) :
    Calls Try.prog 67 #[.int .u64 v, .int .i64 s] w fun e w' => e = .returned (.bool (alignedB v s)) ∧ w = w' := by
  rcases Bool.eq_false_or_eq_true (sizeB s) with h1 | h1
  · rcases size_cases h1 with rfl | rfl | rfl | rfl
    all_goals
      have H1 := Lib.hid h1
      have HV := Lib.hid hv
      clear h1 hv
      go_enter Try.func67, Try.ntmps67
      go_wp2_with (go_at_call 66; refine (size_any _ _).mono ?_; rintro e w' ⟨rfl, rfl⟩; rw [H1.out])
      go_ret
      refine ⟨?_, rfl⟩
      unfold alignedB
      rw [H1.out, Bool.true_and]
      first
        | exact congrArg (fun x => Ending.returned (.bool x)) (aligned_eq v 0 0 (by decide) rfl HV.out)
        | exact congrArg (fun x => Ending.returned (.bool x)) (aligned_eq v 1 1 (by decide) rfl HV.out)
        | exact congrArg (fun x => Ending.returned (.bool x)) (aligned_eq v 2 3 (by decide) rfl HV.out)
        | exact congrArg (fun x => Ending.returned (.bool x)) (aligned_eq v 3 7 (by decide) rfl HV.out)
  · have H1 := Lib.hid h1
    clear h1
    go_enter Try.func67, Try.ntmps67
    go_wp2_with (go_at_call 66; refine (size_any _ _).mono ?_; rintro e w' ⟨rfl, rfl⟩; rw [H1.out])
    go_ret
    exact ⟨by simp [alignedB, H1.out], rfl⟩
end Go.Proofs.Ytbgagmpinekhpaa

/- Contracts of the reference's Size and Bytes. -/
namespace Go.Proofs.Ytbgagmpinekhpaa
open Go.RowKit

theorem bytesOf_take (v q j : Nat) (h : sizeB q = true) (hj : j < q) : (bytesOf v q).take (j + 1) = (bytesOf v q).take j ++ [byteOf v j] := by
  rw [List.take_succ_eq_append_getElem (by rw [bytesOf_length v q h]; exact hj)]
  have := bytesOf_get v q j h hj
  rw [List.getD_eq_getElem?_getD, List.getElem?_eq_getElem (by rw [bytesOf_length v q h]; exact hj)] at this
  simp at this
  rw [this]

theorem cast_div (v j : Nat) : ((v : Int) / 256 ^ j) = ((v / 256 ^ j : Nat) : Int) := by simp
theorem div_step (v j : Nat) (hv : v < 18446744073709551616) : IntKind.u64.wrap (((v : Int) / 256 ^ j).tdiv 256) = (v : Int) / 256 ^ (j + 1) := by
  have h : v / 256 ^ j ≤ v := Nat.div_le_self _ _
  rw [cast_div, cast_div, Nat.pow_succ, ← Nat.div_div_eq_div_mul]
  generalize v / 256 ^ j = x at *
  rw [IntWalk.u64_quo _ _ (by omega)]
  simp
theorem byte_tmod (v j : Nat) : ((v : Int) / 256 ^ j).tmod 256 % 256 = ((byteOf v j : Nat) : Int) := by
  rw [cast_div, byteOf]
  generalize v / 256 ^ j = x
  rw [Int.tmod_eq_emod_of_nonneg (by omega)]
  omega
theorem byte_take (v q j : Nat) (x : Int) (h : sizeB q = true) (hj : j < q) (hx : x = ((byteOf v j : Nat) : Int)) : ((bytesOf v q).take j).map bv ++ [Value.int .u8 x] = ((bytesOf v q).take (j + 1)).map bv := by
  rw [bytesOf_take v q j h hj, hx]; simp [bv]

end Go.Proofs.Ytbgagmpinekhpaa
