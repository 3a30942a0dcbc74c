/- Sets of nodes: plain words. -/
import Derived.Test.YtkkgigdgbiklmaaDoorWide
import Derived.Test.YtkkgigdgbiklmaaDoorReads
import Derived.Test.YtkkgigdgbiklmaaDoorORows
namespace Go.Proofs.YtkkgigdgbiklmaaDoor
open Go.RowKit

theorem u16_bits (op : BinOp) (f : Nat → Nat → Nat) (g : BitVec 16 → BitVec 16 → BitVec 16) (hb : ∀ x y : Int, bits op .u16 x y = IntKind.u16.wrap ((g (BitVec.ofInt 16 x) (BitVec.ofInt 16 y)).toNat : Int)) (hg : ∀ x y : BitVec 16, (g x y).toNat = f x.toNat y.toNat) (a b : Nat) (ha : a < 65536) (hc : b < 65536) : bits op .u16 (a : Int) (b : Int) = ((f a b : Nat) : Int) := by
  rw [hb]
  have h1 : (BitVec.ofInt 16 (a : Int)).toNat = a := by rw [BitVec.toNat_ofInt]; omega
  have h2 : (BitVec.ofInt 16 (b : Int)).toNat = b := by rw [BitVec.toNat_ofInt]; omega
  have h3 := (g (BitVec.ofInt 16 (a : Int)) (BitVec.ofInt 16 (b : Int))).isLt
  rw [hg, h1, h2] at h3 ⊢
  simp [IntKind.wrap, IntKind.signed, IntKind.bits]
  omega
theorem u16_wrap (x : Nat) (h : x < 65536) : IntKind.u16.wrap (x : Int) = (x : Int) := by
  simp [IntKind.wrap, IntKind.signed, IntKind.bits]
  omega
theorem u16_or (a b : Nat) (ha : a < 65536) (hb : b < 65536) : bits .or .u16 (a : Int) (b : Int) = ((a ||| b : Nat) : Int) := u16_bits .or (fun x y => x ||| y) (fun x y => x ||| y) (fun _ _ => rfl) (fun x y => BitVec.toNat_or x y) a b ha hb
theorem u16_and (a b : Nat) (ha : a < 65536) (hb : b < 65536) : bits .and .u16 (a : Int) (b : Int) = ((a &&& b : Nat) : Int) := u16_bits .and (fun x y => x &&& y) (fun x y => x &&& y) (fun _ _ => rfl) (fun x y => BitVec.toNat_and x y) a b ha hb
def lessN (a b : Nat) : Nat := a &&& (65535 - b)
theorem u16_andNot (a b : Nat) (ha : a < 65536) (hb : b < 65536) : bits .andNot .u16 (a : Int) (b : Int) = ((lessN a b : Nat) : Int) := u16_bits .andNot lessN (fun x y => x &&& ~~~y) (fun _ _ => rfl) (fun x y => by rw [BitVec.toNat_and, BitVec.toNat_not]; rfl) a b ha hb
def bitN (n : Int) : Nat := if 0 ≤ n ∧ n < 16 then 2 ^ n.toNat else 0
theorem bitN_lt (n : Int) : bitN n < 65536 := by
  unfold bitN
  split
  · exact Nat.pow_lt_pow_right (by decide) (show n.toNat < 16 by omega)
  · decide
theorem or_lt (a b : Nat) (ha : a < 65536) (hb : b < 65536) : a ||| b < 65536 := Nat.or_lt_two_pow (n := 16) ha hb
theorem less_lt (a b : Nat) (ha : a < 65536) : lessN a b < 65536 := Nat.lt_of_le_of_lt Nat.and_le_left ha
theorem bit_tb (n : Int) (k : Nat) : (bitN n).testBit k = (decide ((k : Int) = n) && decide (k < 16)) := by
  unfold bitN
  split
  · rename_i h
    rw [Nat.testBit_two_pow, Bool.eq_iff_iff]
    simp only [decide_eq_true_eq, Bool.and_eq_true]
    omega
  · rename_i h
    rw [Nat.zero_testBit, Bool.eq_iff_iff]
    simp only [decide_eq_true_eq, Bool.and_eq_true, Bool.false_eq_true, false_iff]
    omega
theorem less_tb (a b k : Nat) (hb : b < 65536) : (lessN a b).testBit k = (a.testBit k && (decide (k < 16) && !b.testBit k)) := by
  unfold lessN
  rw [Nat.testBit_and, show 65535 - b = 2 ^ 16 - (b + 1) by omega, Nat.testBit_two_pow_sub_succ hb]
theorem tb_lt {a k : Nat} (ha : a < 65536) (h : a.testBit k = true) : k < 16 := by
  rcases Nat.lt_or_ge k 16 with h1 | h1
  · exact h1
  · rw [Nat.testBit_lt_two_pow (Nat.lt_of_lt_of_le ha (Nat.pow_le_pow_right (show 0 < 2 by decide) h1))] at h; cases h
theorem set_eq {a b : Nat} (ha : a < 65536) (hb : b < 65536) (h : ∀ k, k < 16 → a.testBit k = b.testBit k) : a = b := by
  apply Nat.eq_of_testBit_eq
  intro k
  rcases Nat.lt_or_ge k 16 with h1 | h1
  · exact h k h1
  · rw [Nat.testBit_lt_two_pow (Nat.lt_of_lt_of_le ha (Nat.pow_le_pow_right (show 0 < 2 by decide) h1)), Nat.testBit_lt_two_pow (Nat.lt_of_lt_of_le hb (Nat.pow_le_pow_right (show 0 < 2 by decide) h1))]
def hasB (s : Nat) (n : Int) : Bool := decide (0 ≤ n) && s.testBit n.toNat
theorem has_bit (s : Nat) (n : Int) (hs : s < 65536) : (((s &&& bitN n : Nat) : Int) != 0) = hasB s n := by
  unfold hasB
  rw [Bool.eq_iff_iff, bne_iff_ne]
  constructor
  · intro h
    have h0 : s &&& bitN n ≠ 0 := by omega
    obtain ⟨k, hk⟩ := Nat.exists_testBit_of_ne_zero h0
    rw [Nat.testBit_and, bit_tb] at hk
    simp only [Bool.and_eq_true, decide_eq_true_eq] at hk
    obtain ⟨h1, h2, h3⟩ := hk
    simp only [Bool.and_eq_true, decide_eq_true_eq]
    exact ⟨by omega, by rw [← h2]; simpa using h1⟩
  · intro h e
    simp only [Bool.and_eq_true, decide_eq_true_eq] at h
    have h1 : (s &&& bitN n).testBit n.toNat = true := by
      rw [Nat.testBit_and, h.2, bit_tb]
      have := tb_lt hs h.2
      simp only [Bool.true_and, Bool.and_eq_true, decide_eq_true_eq]
      omega
    rw [show s &&& bitN n = 0 by omega] at h1
    simp at h1
/-- All that are in a set. -/
def listN (s : Nat) : List Nat := (List.range 16).filter (fun k => s.testBit k)
def lenN (s : Nat) : Nat := (listN s).length
def ofN : List Int → Nat
  | [] => 0
  | n :: l => bitN n ||| ofN l
theorem of_lt : ∀ l : List Int, ofN l < 65536
  | [] => by decide
  | n :: l => or_lt _ _ (bitN_lt n) (of_lt l)
theorem of_tb : ∀ (l : List Int) (k : Nat), (ofN l).testBit k = (l.contains (k : Int) && decide (k < 16))
  | [], k => by simp [ofN]
  | n :: l, k => by
    show (bitN n ||| ofN l).testBit k = _
    rw [Nat.testBit_or, of_tb l k, bit_tb, List.contains_cons, Bool.eq_iff_iff]
    simp only [Bool.or_eq_true, Bool.and_eq_true, decide_eq_true_eq, beq_iff_eq]
    constructor
    · rintro (⟨h1, h2⟩ | ⟨h1, h2⟩)
      · exact ⟨.inl h1, h2⟩
      · exact ⟨.inr h1, h2⟩
    · rintro ⟨h1 | h1, h2⟩
      · exact .inl ⟨h1, h2⟩
      · exact .inr ⟨h1, h2⟩
theorem of_snoc (l : List Int) (n : Int) : ofN (l ++ [n]) = ofN l ||| bitN n := by
  induction l with
  | nil => simp [ofN]
  | cons x l ih =>
    show bitN x ||| ofN (l ++ [n]) = bitN x ||| ofN l ||| bitN n
    rw [ih, Nat.or_assoc]
def inB (a b : Nat) : Bool := lessN a b == 0
end Go.Proofs.YtkkgigdgbiklmaaDoor
