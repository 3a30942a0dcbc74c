/- first. -/
import Derived.Test.YtmnpakfihfjfiaaPhyG
namespace Go.Proofs.Ytmnpakfihfjfiaa
open Go.RowKit

theorem Mem.tight {w : World} {g n : Nat} {F : Nat → Prop} {S : Nat → List Nat} (h : Mem w g F n S) : Mem w g (fun b => F b ∧ b < w.heap.size) n S := by
  obtain ⟨mb, loc, K, h, hF⟩ := h
  exact ⟨mb, loc, K, h, fun b hb => ⟨hF b hb, h.flt b hb⟩⟩
theorem MemTo.tight {W w' : World} {g n B : Nat} {F : Nat → Prop} {S : Nat → List Nat} (h : MemTo W g F n S w') (hF : ∀ b, F b → B ≤ b) (hB : B ≤ W.heap.size) : Mem w' g (fun b => B ≤ b ∧ b < w'.heap.size) n S ∧ Below B W w' ∧ Keeps F W w' := by
  obtain ⟨F', h, h1, h2⟩ := h
  refine ⟨h.tight.mono (fun b hb => ⟨?_, hb.2⟩), h2.below hF hB, h2⟩
  rcases h1 b hb.1 with h | h
  · exact hF b h
  · omega
theorem take2 {l : List Nat} (h : 2 ≤ l.length) : l.take 2 = [l.getD 0 0, l.getD 1 0] := by
  match l, h with
  | a :: b :: r, _ => rfl
theorem cell_of {l : List Nat} {i : Nat} (h : i < l.length) : (l.map bv)[i]? = some (bv (l.getD i 0)) := by
  rw [List.getElem?_map, List.getD_eq_getElem?_getD, List.getElem?_eq_getElem h]
  rfl
theorem first_S : (stR 2 emptyS 4096 8 258 1).getD 0 0 = 2 ∧ (stR 2 emptyS 4096 8 258 1).getD 1 0 = 1 ∧ (stR 2 emptyS 4096 8 258 1).length = 4096 := by
  have e : stR 2 emptyS 4096 8 258 1 = putL zeroL 0 258 8 := by
    unfold stR
    rw [if_pos (by decide)]
    rfl
  rw [e]
  exact ⟨by rw [putL_get _ _ _ _ _ (by decide)]; decide, by rw [putL_get _ _ _ _ _ (by decide)]; decide, putL_length _ _ _ _⟩
theorem first_L : ldR 2 (stR 2 emptyS 4096 8 258) 4096 2 = 258 := by
  unfold ldR
  rw [if_pos (by decide)]
  show getV (stR 2 emptyS 4096 8 258 1) 0 2 = 258
  obtain ⟨h0, h1, h2⟩ := first_S
  show leNat (((stR 2 emptyS 4096 8 258 1).drop 0).take 2) = 258
  rw [List.drop_zero, take2 (by rw [h2]; decide), h0, h1]
  rfl
end Go.Proofs.Ytmnpakfihfjfiaa
