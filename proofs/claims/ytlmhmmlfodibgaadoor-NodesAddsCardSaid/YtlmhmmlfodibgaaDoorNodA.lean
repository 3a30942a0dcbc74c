/- Sets of nodes: plain words. -/
import Derived.Test.YtlmhmmlfodibgaaDoorWide
import Derived.Test.YtlmhmmlfodibgaaDoorReads
import Derived.Test.YtlmhmmlfodibgaaDoorORows
namespace Go.Proofs.YtlmhmmlfodibgaaDoor
open Go.RowKit

theorem u16_bits (op : BinOp) (f : Nat → Nat → Nat) (g : BitVec 16 → BitVec 16 → BitVec 16) (hb : ∀ x y : Int, bits op .u16 x y = IntKind.u16.wrap ((g (BitVec.ofInt 16 x) (BitVec.ofInt 16 y)).toNat : Int)) (hg : ∀ x y : BitVec 16, (g x y).toNat = f x.toNat y.toNat) (a b : Nat) (ha : a < 65536) (hc : b < 65536) : bits op .u16 (a : Int) (b : Int) = ((f a b : Nat) : Int) := by
  rw [hb]
  have h1 : (BitVec.ofInt 16 (a : Int)).toNat = a := by rw [BitVec.toNat_ofInt]; omega
  have h2 : (BitVec.ofInt 16 (b : Int)).toNat = b := by rw [BitVec.toNat_ofInt]; omega
  have h3 := (g (BitVec.ofInt 16 (a : Int)) (BitVec.ofInt 16 (b : Int))).isLt
  rw [hg, h1, h2] at h3 ⊢
  simp [IntKind.wrap, IntKind.signed, IntKind.bits]
  omega
theorem u16_wrap (x : Nat) (h : x < 65536) : IntKind.u16.wrap (x : Int) = (x : Int) := by
  simp [IntKind.wrap, IntKind.signed, IntKind.bits]
  omega
theorem u16_or (a b : Nat) (ha : a < 65536) (hb : b < 65536) : bits .or .u16 (a : Int) (b : Int) = ((a ||| b : Nat) : Int) := u16_bits .or (fun x y => x ||| y) (fun x y => x ||| y) (fun _ _ => rfl) (fun x y => BitVec.toNat_or x y) a b ha hb
theorem u16_and (a b : Nat) (ha : a < 65536) (hb : b < 65536) : bits .and .u16 (a : Int) (b : Int) = ((a &&& b : Nat) : Int) := u16_bits .and (fun x y => x &&& y) (fun x y => x &&& y) (fun _ _ => rfl) (fun x y => BitVec.toNat_and x y) a b ha hb
def lessN (a b : Nat) : Nat := a &&& (65535 - b)
theorem u16_andNot (a b : Nat) (ha : a < 65536) (hb : b < 65536) : bits .andNot .u16 (a : Int) (b : Int) = ((lessN a b : Nat) : Int) := u16_bits .andNot lessN (fun x y => x &&& ~~~y) (fun _ _ => rfl) (fun x y => by rw [BitVec.toNat_and, BitVec.toNat_not]; rfl) a b ha hb
def bitN (n : Int) : Nat := if 0 ≤ n ∧ n < 16 then 2 ^ n.toNat else 0
theorem bitN_lt (n : Int) : bitN n < 65536 := by
  unfold bitN
  split
  · exact Nat.pow_lt_pow_right (by decide) (show n.toNat < 16 by omega)
  · decide
theorem or_lt (a b : Nat) (ha : a < 65536) (hb : b < 65536) : a ||| b < 65536 := Nat.or_lt_two_pow (n := 16) ha hb
theorem less_lt (a b : Nat) (ha : a < 65536) : lessN a b < 65536 := Nat.lt_of_le_of_lt Nat.and_le_left ha
theorem bit_tb (n : Int) (k : Nat) : (bitN n).testBit k = (decide ((k : Int) = n) && decide (k < 16)) := by
  unfold bitN
  split
  · rename_i h
    rw [Nat.testBit_two_pow, Bool.eq_iff_iff]
    simp only [decide_eq_true_eq, Bool.and_eq_true]
    omega
  · rename_i h
    rw [Nat.zero_testBit, Bool.eq_iff_iff]
    simp only [decide_eq_true_eq, Bool.and_eq_true, Bool.false_eq_true, false_iff]
    omega
theorem less_tb (a b k : Nat) (hb : b < 65536) : (lessN a b).testBit k = (a.testBit k && (decide (k < 16) && !b.testBit k)) := by
  unfold lessN
  rw [Nat.testBit_and, show 65535 - b = 2 ^ 16 - (b + 1) by omega, Nat.testBit_two_pow_sub_succ hb]
theorem tb_lt {a k : Nat} (ha : a < 65536) (h : a.testBit k = true) : k < 16 := by
  rcases Nat.lt_or_ge k 16 with h1 | h1
  · exact h1
  · rw [Nat.testBit_lt_two_pow (Nat.lt_of_lt_of_le ha (Nat.pow_le_pow_right (show 0 < 2 by decide) h1))] at h; cases h
theorem set_eq {a b : Nat} (ha : a < 65536) (hb : b < 65536) (h : ∀ k, k < 16 → a.testBit k = b.testBit k) : a = b := by
  apply Nat.eq_of_testBit_eq
  intro k
  rcases Nat.lt_or_ge k 16 with h1 | h1
  · exact h k h1
  · rw [Nat.testBit_lt_two_pow (Nat.lt_of_lt_of_le ha (Nat.pow_le_pow_right (show 0 < 2 by decide) h1)), Nat.testBit_lt_two_pow (Nat.lt_of_lt_of_le hb (Nat.pow_le_pow_right (show 0 < 2 by decide) h1))]
def hasB (s : Nat) (n : Int) : Bool := decide (0 ≤ n) && s.testBit n.toNat
theorem has_bit (s : Nat) (n : Int) (hs : s < 65536) : (((s &&& bitN n : Nat) : Int) != 0) = hasB s n := by
  unfold hasB
  rw [Bool.eq_iff_iff, bne_iff_ne]
  constructor
  · intro h
    have h0 : s &&& bitN n ≠ 0 := by omega
    obtain ⟨k, hk⟩ := Nat.exists_testBit_of_ne_zero h0
    rw [Nat.testBit_and, bit_tb] at hk
    simp only [Bool.and_eq_true, decide_eq_true_eq] at hk
    obtain ⟨h1, h2, h3⟩ := hk
    simp only [Bool.and_eq_true, decide_eq_true_eq]
    exact ⟨by omega, by rw [← h2]; simpa using h1⟩
  · intro h e
    simp only [Bool.and_eq_true, decide_eq_true_eq] at h
    have h1 : (s &&& bitN n).testBit n.toNat = true := by
      rw [Nat.testBit_and, h.2, bit_tb]
      have := tb_lt hs h.2
      simp only [Bool.true_and, Bool.and_eq_true, decide_eq_true_eq]
      omega
    rw [show s &&& bitN n = 0 by omega] at h1
    simp at h1
/-- All that are in a set. -/
def listN (s : Nat) : List Nat := (List.range 16).filter (fun k => s.testBit k)
def lenN (s : Nat) : Nat := (listN s).length
def ofN : List Int → Nat
  | [] => 0
  | n :: l => bitN n ||| ofN l
theorem of_lt : ∀ l : List Int, ofN l < 65536
  | [] => by decide
  | n :: l => or_lt _ _ (bitN_lt n) (of_lt l)
theorem of_tb : ∀ (l : List Int) (k : Nat), (ofN l).testBit k = (l.contains (k : Int) && decide (k < 16))
  | [], k => by simp [ofN]
  | n :: l, k => by
    show (bitN n ||| ofN l).testBit k = _
    rw [Nat.testBit_or, of_tb l k, bit_tb, List.contains_cons, Bool.eq_iff_iff]
    simp only [Bool.or_eq_true, Bool.and_eq_true, decide_eq_true_eq, beq_iff_eq]
    constructor
    · rintro (⟨h1, h2⟩ | ⟨h1, h2⟩)
      · exact ⟨.inl h1, h2⟩
      · exact ⟨.inr h1, h2⟩
    · rintro ⟨h1 | h1, h2⟩
      · exact .inl ⟨h1, h2⟩
      · exact .inr ⟨h1, h2⟩
theorem of_snoc (l : List Int) (n : Int) : ofN (l ++ [n]) = ofN l ||| bitN n := by
  induction l with
  | nil => simp [ofN]
  | cons x l ih =>
    show bitN x ||| ofN (l ++ [n]) = bitN x ||| ofN l ||| bitN n
    rw [ih, Nat.or_assoc]
set_option maxHeartbeats 400000 in
theorem bit_any (n : Int) (W : World) (hn : -9223372036854775808 ≤ n ∧ n < 9223372036854775808) :
    Calls Tryd.prog 24 #[.int .i64 n] W fun e w' => e = .returned (.int .u16 (bitN n : Int)) ∧ W = w' := by
  have H : Hid (bitN n = if 0 ≤ n ∧ n < 16 then 2 ^ n.toNat else 0) := Lib.hid rfl
  by_cases h0 : n < 0
  · go_enter Tryd.func24, Tryd.ntmps24
    go_wp2
    go_ret
    exact ⟨by rw [H.out, if_neg (by omega)]; rfl, rfl⟩
  · by_cases h1 : 16 ≤ n
    · go_enter Tryd.func24, Tryd.ntmps24
      go_wp2
      go_ret
      exact ⟨by rw [H.out, if_neg (by omega)]; rfl, rfl⟩
    · have h2 : n < 16 := by omega
      have h3 : 0 ≤ n := by omega
      clear h1
      go_enter Tryd.func24, Tryd.ntmps24
      go_wp2
      go_ret
      refine ⟨?_, rfl⟩
      rw [H.out, if_pos ⟨h3, h2⟩]
      have := Nat.pow_lt_pow_right (show 1 < 2 by decide) (show n.toNat < 16 by omega)
      exact congrArg (fun x => Ending.returned (.int .u16 x)) (by rw [show ((2 : Int) ^ n.toNat) = ((2 ^ n.toNat : Nat) : Int) by simp, u16_wrap _ this])
theorem has_any (s : Nat) (n : Int) (W : World) (hs : s < 65536) (hn : -9223372036854775808 ≤ n ∧ n < 9223372036854775808) :
    Calls Tryd.prog 10 #[.int .u16 s, .int .i64 n] W fun e w' => e = .returned (.bool (hasB s n)) ∧ W = w' := by
  have h1 := u16_and s (bitN n) hs (bitN_lt n)
  have HB := Lib.hid (has_bit s n hs)
  have HN := Lib.hid hn
  have HS := Lib.hid (bit_any n)
  generalize bitN n = b at *
  clear hs hn
  go_enter Tryd.func10, Tryd.ntmps10
  go_wp2_with fail
  refine (HS.out _ HN.out).mono ?_
  rintro e w ⟨rfl, rfl⟩
  go_wp2
  go_ret
  exact ⟨by rw [← HB.out]; rfl, rfl⟩
theorem add_any (s : Nat) (n : Int) (W : World) (hs : s < 65536) (hn : -9223372036854775808 ≤ n ∧ n < 9223372036854775808) :
    Calls Tryd.prog 16 #[.int .u16 s, .int .i64 n] W fun e w' => e = .returned (.int .u16 ((s ||| bitN n : Nat) : Int)) ∧ W = w' := by
  have h1 := u16_or s (bitN n) hs (bitN_lt n)
  obtain ⟨r, hr⟩ : ∃ r, r = s ||| bitN n := ⟨_, rfl⟩
  rw [← hr] at h1 ⊢
  have HN := Lib.hid hn
  have HS := Lib.hid (bit_any n)
  clear hr
  generalize bitN n = b at *
  clear hs hn
  go_enter Tryd.func16, Tryd.ntmps16
  go_wp2_with fail
  refine (HS.out _ HN.out).mono ?_
  rintro e w ⟨rfl, rfl⟩
  go_wp2
  go_ret
  exact ⟨rfl, rfl⟩
theorem drop_any (s : Nat) (n : Int) (W : World) (hs : s < 65536) (hn : -9223372036854775808 ≤ n ∧ n < 9223372036854775808) :
    Calls Tryd.prog 17 #[.int .u16 s, .int .i64 n] W fun e w' => e = .returned (.int .u16 ((lessN s (bitN n) : Nat) : Int)) ∧ W = w' := by
  have h1 := u16_andNot s (bitN n) hs (bitN_lt n)
  obtain ⟨r, hr⟩ : ∃ r, r = lessN s (bitN n) := ⟨_, rfl⟩
  rw [← hr] at h1 ⊢
  have HN := Lib.hid hn
  have HS := Lib.hid (bit_any n)
  clear hr
  generalize bitN n = b at *
  clear hs hn
  go_enter Tryd.func17, Tryd.ntmps17
  go_wp2_with fail
  refine (HS.out _ HN.out).mono ?_
  rintro e w ⟨rfl, rfl⟩
  go_wp2
  go_ret
  exact ⟨rfl, rfl⟩
theorem join_any (a b : Nat) (W : World) (ha : a < 65536) (hb : b < 65536) :
    Calls Tryd.prog 19 #[.int .u16 a, .int .u16 b] W fun e w' => e = .returned (.int .u16 ((a ||| b : Nat) : Int)) ∧ W = w' := by
  have h1 := u16_or a b ha hb
  generalize a ||| b = r at *
  clear ha hb
  go_enter Tryd.func19, Tryd.ntmps19
  go_wp2
  go_ret
  exact ⟨rfl, rfl⟩
theorem less_any (a b : Nat) (W : World) (ha : a < 65536) (hb : b < 65536) :
    Calls Tryd.prog 20 #[.int .u16 a, .int .u16 b] W fun e w' => e = .returned (.int .u16 ((lessN a b : Nat) : Int)) ∧ W = w' := by
  have h1 := u16_andNot a b ha hb
  generalize lessN a b = r at *
  clear ha hb
  go_enter Tryd.func20, Tryd.ntmps20
  go_wp2
  go_ret
  exact ⟨rfl, rfl⟩
def inB (a b : Nat) : Bool := lessN a b == 0
theorem in_any (a b : Nat) (W : World) (ha : a < 65536) (hb : b < 65536) :
    Calls Tryd.prog 21 #[.int .u16 a, .int .u16 b] W fun e w' => e = .returned (.bool (inB a b)) ∧ W = w' := by
  have h1 := u16_andNot a b ha hb
  have H : Hid (inB a b = (((lessN a b : Nat) : Int) == 0)) := Lib.hid (by unfold inB; rw [Bool.eq_iff_iff]; simp only [beq_iff_eq]; omega)
  generalize lessN a b = r at *
  clear ha hb
  go_enter Tryd.func21, Tryd.ntmps21
  go_wp2
  go_ret
  exact ⟨by rw [H.out]; simp, rfl⟩
end Go.Proofs.YtlmhmmlfodibgaaDoor
