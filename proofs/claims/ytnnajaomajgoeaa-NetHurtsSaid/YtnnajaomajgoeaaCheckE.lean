/- Contracts: the reference's Tail, Open. -/
import Derived.Test.YtnnajaomajgoeaaCheckD
import Derived.Laws.OwnMore
namespace Go.Proofs.Ytnnajaomajgoeaa
open Go.RowKit

theorem tail_byte (v j : Nat) : v / 256 ^ j % 256 = byteOf v j := rfl
theorem bytes4_take (v j : Nat) (hj : j < 4) : (bytesOf v 4).take (j + 1) = (bytesOf v 4).take j ++ [byteOf v j] := by
  rw [List.take_succ_eq_append_getElem (by rw [bytes4]; exact hj)]
  have := bytesOf_get v 4 j rfl hj
  rw [show ((4 : Nat) : Int) = 4 from rfl] at this
  rw [List.getD_eq_getElem?_getD, List.getElem?_eq_getElem (by rw [bytes4]; exact hj)] at this
  simp at this
  rw [this]
theorem leNat_bytes4 (v : Nat) (hv : v < 4294967296) : leNat (bytesOf v 4) = v := by
  have : bytesOf v 4 = [v / 256 ^ 0 % 256, v / 256 ^ 1 % 256, v / 256 ^ 2 % 256, v / 256 ^ 3 % 256] := rfl
  rw [this]
  simp only [leNat, Nat.reducePow]
  omega
theorem le4_inj (q : List Nat) (v : Nat) (hq : q.length = 4) (hb : ∀ i : Nat, q.getD i 0 < 256) (h : leNat q = v) : q = bytesOf v 4 := by
  subst h
  match q, hq with
  | [a, b, c, d], _ =>
    have h0 : a < 256 := hb 0
    have h1 : b < 256 := hb 1
    have h2 : c < 256 := hb 2
    have h3 : d < 256 := hb 3
    have : bytesOf (leNat [a, b, c, d]) 4 = [leNat [a, b, c, d] / 256 ^ 0 % 256, leNat [a, b, c, d] / 256 ^ 1 % 256, leNat [a, b, c, d] / 256 ^ 2 % 256, leNat [a, b, c, d] / 256 ^ 3 % 256] := rfl
    rw [this]
    simp only [leNat, Nat.reducePow]
    congr 1
    · omega
    congr 1
    · omega
    congr 1
    · omega
    congr 1
    omega
theorem openB_eq (l : List Nat) (hb : ∀ i : Nat, l.getD i 0 < 256) (h4 : 4 ≤ l.length) : openB l = decide (bytesOf (sumV (l.take (l.length - 4))) 4 = l.drop (l.length - 4)) := by
  rw [Bool.eq_iff_iff]
  have e : (l.drop (l.length - 4)).take 4 = l.drop (l.length - 4) := List.take_of_length_le (by simp; omega)
  simp only [openB, e, h4, decide_true, Bool.true_and, beq_iff_eq, decide_eq_true_eq]
  constructor
  · intro h
    exact (le4_inj _ _ (by simp; omega) (fun i => getD_drop_lt l _ hb i) h).symm
  · intro h
    rw [← h, leNat_bytes4 _ (sum_lt _)]
theorem strB_inj {a b : List Nat} (ha : ∀ i : Nat, a.getD i 0 < 256) (hb : ∀ i : Nat, b.getD i 0 < 256) (h : (strB a).toList = (strB b).toList) : a = b := by
  replace h : a.map UInt8.ofNat = b.map UInt8.ofNat := by
    rw [strB, strB, ByteArray.toList_mk, ByteArray.toList_mk] at h
    exact h
  have hl : a.length = b.length := by have := congrArg List.length h; simpa using this
  apply List.ext_getElem? 
  intro i
  rcases Nat.lt_or_ge i a.length with h1 | h1
  · have h2 := congrArg (fun l => l[i]?) h
    simp only [List.getElem?_map] at h2
    have ha' := ha i
    have hb' := hb i
    rw [List.getD_eq_getElem?_getD, List.getElem?_eq_getElem h1] at ha'
    rw [List.getD_eq_getElem?_getD, List.getElem?_eq_getElem (by omega)] at hb'
    rw [List.getElem?_eq_getElem h1, List.getElem?_eq_getElem (by omega)] at h2 ⊢
    simp at h2 ha' hb' ⊢
    have h3 := congrArg UInt8.toNat h2
    simp at h3
    omega
  · rw [List.getElem?_eq_none h1, List.getElem?_eq_none (by omega)]
theorem bts_drop {w : World} {b o : Nat} {l : List Nat} (k : Nat) (h : Bts w (some ⟨b, o, none⟩) l) : Bts w (some ⟨b, o + k, none⟩) (l.drop k) := by
  refine ⟨fun i => getD_drop_lt l k h.1 i, fun hl => ?_⟩
  have hk2 : k < l.length := by simp at hl; omega
  obtain ⟨b', o', e, hcell⟩ := h.2 (by omega)
  injection e with e
  injection e with e1 e2
  subst e1 e2
  refine ⟨b, o + k, rfl, fun i hi => ?_⟩
  rw [getD_drop, show o + k + i = o + (k + i) by omega]
  exact hcell _ (by simp at hi; omega)
theorem bts_ext {w w' : World} {A : Option Addr} {l : List Nat} (h : Bts w A l) (hb : Ext w.drew w') : Bts w' A l := bts_below (w := w.drew) h hb
end Go.Proofs.Ytnnajaomajgoeaa
