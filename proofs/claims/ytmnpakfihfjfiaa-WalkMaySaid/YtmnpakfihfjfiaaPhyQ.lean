/- The plain law: pages set and read, words read. -/
import Derived.Test.YtmnpakfihfjfiaaPhyP
namespace Go.Proofs.Ytmnpakfihfjfiaa
open Go.RowKit

theorem headL_get (l : List Nat) (i : Nat) : (headL l).getD i 0 = if i < l.length then l.getD i 0 else 0 := by
  unfold headL
  rw [List.getD_eq_getElem?_getD]
  by_cases hi : i < l.length
  · rw [List.getElem?_append_left hi, if_pos hi, ← List.getD_eq_getElem?_getD]
  · rw [List.getElem?_append_right (by omega), List.getElem?_drop, ← List.getD_eq_getElem?_getD, zeroL_get, if_neg hi]
theorem getD_set (l : List Nat) (j y i : Nat) (hi : i < l.length) : (l.set j y).getD i 0 = if j = i then y else l.getD i 0 := by
  rw [List.getD_eq_getElem?_getD, List.getElem?_set]
  by_cases e : j = i
  · rw [if_pos e, if_pos e, if_pos (by omega)]; rfl
  · rw [if_neg e, if_neg e, List.getD_eq_getElem?_getD]
theorem list_ext_getD {l m : List Nat} (h : l.length = m.length) (he : ∀ i, i < l.length → l.getD i 0 = m.getD i 0) : l = m := by
  apply List.ext_getElem h
  intro i h1 h2
  have := he i h1
  rwa [List.getD_eq_getElem?_getD, List.getD_eq_getElem?_getD, List.getElem?_eq_getElem h1, List.getElem?_eq_getElem h2] at this
theorem Rel.load {n : Nat} {L : List (Nat × Nat)} {S : Nat → List Nat} (h : Rel n L S) (a : Nat) (s : Int) : ldE n L a s = ldR n S a s := by
  unfold ldE ldR
  by_cases h0 : chkE n a s = 0
  · rw [if_pos h0, if_pos h0]
    obtain ⟨o1, o2⟩ := chk_ok h0
    obtain ⟨hs, ht⟩ := in_pg o1
    have hq := there_of ht
    have hfit : a % 4096 + s.toNat ≤ 4096 := by
      have h3 := hq.2.2.2
      have := size_cases hq.1
      omega
    have hdm := Nat.div_add_mod a 4096
    unfold rdV ldV getV
    congr 1
    apply list_ext_getD
    · rw [List.length_map, List.length_range, List.length_take, List.length_drop, h.len, Int.toNat_natCast]
      omega
    · intro i hi
      rw [List.length_map, List.length_range] at hi
      rw [List.getD_eq_getElem?_getD, List.getElem?_map, List.getElem?_range hi, List.getD_eq_getElem?_getD, List.getElem?_take, if_pos (by omega), List.getElem?_drop, Int.toNat_natCast, ← List.getD_eq_getElem?_getD]
      show getB L (a + 0 + i) = _
      rw [show a + 0 + i = 4096 * (a / 4096) + (a % 4096 + i) by omega]
      exact h.eq _ o2 _ (by omega)
  · rw [if_neg h0, if_neg h0]
end Go.Proofs.Ytmnpakfihfjfiaa
