/- Frames and their bytes: plain laws. -/
import Derived.Test.YtidfhdkalnaddaaWireK
namespace Go.Proofs.Ytidfhdkalnaddaa
open Go.RowKit

theorem byte_leNat : ∀ (l : List Nat) (i : Nat), (∀ i : Nat, l.getD i 0 < 256) → byteOf (leNat l) i = l.getD i 0
  | [], i, _ => by simp [leNat, byteOf]
  | b :: r, 0, h => by
    have h0 : b < 256 := h 0
    show (b + 256 * leNat r) / 256 ^ 0 % 256 = b
    rw [Nat.pow_zero, Nat.div_one]
    omega
  | b :: r, i + 1, h => by
    have h0 : b < 256 := h 0
    have := byte_leNat r i (fun j => h (j + 1))
    show (b + 256 * leNat r) / 256 ^ (i + 1) % 256 = r.getD i 0
    rw [← this, Nat.pow_succ, Nat.mul_comm (256 ^ i) 256, ← Nat.div_div_eq_div_mul, show (b + 256 * leNat r) / 256 = leNat r by omega]
    rfl
theorem bytes_leNat (l : List Nat) (q : Nat) (hq : sizeB q = true) (hl : l.length = q) (h : ∀ i : Nat, l.getD i 0 < 256) : bytesOf (leNat l) q = l := by
  apply List.ext_getElem
  · rw [bytesOf_length _ _ hq, hl]
  · intro i h1 h2
    have e1 := bytesOf_get (leNat l) q i hq (by omega)
    rw [byte_leNat l i h] at e1
    rw [List.getD_eq_getElem?_getD, List.getElem?_eq_getElem h1, List.getD_eq_getElem?_getD, List.getElem?_eq_getElem h2] at e1
    exact e1
theorem leNat_bytes2 (v : Nat) (hv : v < 65536) : leNat (bytesOf v 2) = v := by
  have h1 : byteOf v 0 = v % 256 := by simp [byteOf]
  have h2 : byteOf v 1 = v / 256 := by simp [byteOf]; omega
  simp [bytesOf, sizeB, List.range, List.range.loop, h1, h2, leNat]
  omega
theorem split5 (B : List Nat) (h : 23 ≤ B.length) : B = B.take 5 ++ ((B.drop 5).take 8 ++ ((B.drop 13).take 8 ++ ((B.drop 21).take 2 ++ B.drop 23))) := by
  have e1 : B.drop 21 = (B.drop 21).take 2 ++ B.drop 23 := by
    conv => lhs; rw [← List.take_append_drop 2 (B.drop 21), List.drop_drop]
  have e2 : B.drop 13 = (B.drop 13).take 8 ++ B.drop 21 := by
    conv => lhs; rw [← List.take_append_drop 8 (B.drop 13), List.drop_drop]
  have e3 : B.drop 5 = (B.drop 5).take 8 ++ B.drop 13 := by
    conv => lhs; rw [← List.take_append_drop 8 (B.drop 5), List.drop_drop]
  rw [← e1, ← e2, ← e3, List.take_append_drop]
theorem take5 (B : List Nat) (h : 23 ≤ B.length) : B.take 5 = [B.getD 0 0, B.getD 1 0, B.getD 2 0, B.getD 3 0, B.getD 4 0] := by
  match B, h with
  | a :: b :: c :: d :: e :: r, _ => rfl
theorem plain_form (f t : Nat) (b : Bool) (s a : Nat) (D : List Nat) : plainL f t b s a D = headL f t b ++ (bytesOf s 8 ++ (bytesOf a 8 ++ (bytesOf D.length 2 ++ D))) := by simp [plainL]
theorem bN_eq (x : Nat) : bN (x == 1) = x ↔ x ≤ 1 := by
  unfold bN
  by_cases h : x = 1
  · subst h; simp
  · rw [beq_eq_false_iff_ne.2 h]
    simp
    omega
theorem plain_eq (B : List Nat) (h : 23 ≤ B.length) (hb : ∀ i : Nat, B.getD i 0 < 256) (hn : B.length ≤ 10000) :
    plainL (fF B) (fT B) (fB B) (fS B) (fA B) (B.drop 23) = B ↔ (B.getD 0 0 = 82 ∧ B.getD 1 0 = 82 ∧ B.getD 2 0 ≤ 1 ∧ fZ B = B.length - 23) := by
  have hS : bytesOf (fS B) 8 = (B.drop 5).take 8 := bytes_leNat _ 8 (by decide) (by rw [List.length_take, List.length_drop]; omega) (fun i => getD_take_lt _ _ _ (fun i => getD_drop_lt B 5 hb i))
  have hA : bytesOf (fA B) 8 = (B.drop 13).take 8 := bytes_leNat _ 8 (by decide) (by rw [List.length_take, List.length_drop]; omega) (fun i => getD_take_lt _ _ _ (fun i => getD_drop_lt B 13 hb i))
  have hZ : bytesOf (fZ B) 2 = (B.drop 21).take 2 := bytes_leNat _ 2 (by decide) (by rw [List.length_take, List.length_drop]; omega) (fun i => getD_take_lt _ _ _ (fun i => getD_drop_lt B 21 hb i))
  have hl : (B.drop 23).length = B.length - 23 := List.length_drop
  have hZb : fZ B < 65536 := field_lt B 21 2 hb
  rw [plain_form, hS, hA, hl]
  constructor
  · intro e
    rw [split5 B h] at e
    have e' : headL (fF B) (fT B) (fB B) ++ ((B.drop 5).take 8 ++ ((B.drop 13).take 8 ++ (bytesOf (B.length - 23) 2 ++ B.drop 23))) = B.take 5 ++ ((B.drop 5).take 8 ++ ((B.drop 13).take 8 ++ ((B.drop 21).take 2 ++ B.drop 23))) := by
      rw [← split5 B h] at e
      rw [← split5 B h]
      exact e
    obtain ⟨h1, h2⟩ := List.append_inj e' (by simp [headL]; omega)
    have h3 := List.append_cancel_left (List.append_cancel_left h2)
    have h4 := List.append_cancel_right h3
    rw [take5 B h] at h1
    unfold headL at h1
    injection h1 with a0 h1
    injection h1 with a1 h1
    injection h1 with a2 h1
    refine ⟨a0.symm, a1.symm, (bN_eq _).1 a2, ?_⟩
    rw [← hZ] at h4
    have := congrArg leNat h4
    rw [leNat_bytes2 _ (by omega), leNat_bytes2 _ hZb] at this
    exact this.symm
  · rintro ⟨h0, h1, h2, h3⟩
    rw [← h3, hZ]
    conv => rhs; rw [split5 B h]
    congr 1
    rw [take5 B h, h0, h1]
    unfold headL
    rw [show bN (fB B) = B.getD 2 0 from (bN_eq _).2 h2]
    rfl
/-- The reference's condition is the program's. -/
theorem frame_ref (B : List Nat) (h : 23 ≤ B.length) (hb : ∀ i : Nat, B.getD i 0 < 256) (hn : B.length ≤ 10000) :
    (headOK B && bodyOK B) = (rightF (fF B) (fT B) (fB B) (fS B) (B.length - 23) && decide (plainL (fF B) (fT B) (fB B) (fS B) (fA B) (B.drop 23) = B)) := by
  have := plain_eq B h hb hn
  rw [Bool.eq_iff_iff]
  simp only [headOK, bodyOK, Bool.and_eq_true, decide_eq_true_eq, beq_iff_eq]
  rw [this]
  constructor
  · rintro ⟨⟨⟨⟨_, a⟩, b⟩, c⟩, d, e⟩
    exact ⟨e, a, b, c, d⟩
  · rintro ⟨e, a, b, c, d⟩
    exact ⟨⟨⟨⟨h, a⟩, b⟩, c⟩, d, e⟩
end Go.Proofs.Ytidfhdkalnaddaa
