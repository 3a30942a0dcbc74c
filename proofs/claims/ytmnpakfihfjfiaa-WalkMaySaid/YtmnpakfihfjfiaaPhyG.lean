/- SetPage. -/
import Derived.Test.YtmnpakfihfjfiaaPhyE
import Derived.Laws.CopyOwn
namespace Go.Proofs.Ytmnpakfihfjfiaa
open Go.RowKit

def pgV (l : List Nat) : Array Value := (l.map bv).toArray
theorem pgV_list (l : List Nat) : (pgV l).toList = l.map bv := by unfold pgV; rw [List.toList_toArray]
theorem pgV_size {l : List Nat} (h : l.length = 4096) : (pgV l).size = 4096 := by rw [← Array.length_toList, pgV_list, List.length_map, h]
theorem row_pg : rowT Try.prog 96 4096 = true := by kernel_rfl
theorem pgV_row {l : List Nat} (h : l.length = 4096) : rowT Try.prog 96 (pgV l).size = true := by rw [pgV_size h]; exact row_pg
theorem pgV_one (l : List Nat) : (pgV l).all (·.oneCell') = true := by
  unfold pgV
  rw [List.all_toArray, List.all_eq_true]
  exact one_bv l
/-- A page with l at its head. -/
def headL (l : List Nat) : List Nat := l ++ zeroL.drop l.length
theorem headL_length {l : List Nat} (h : l.length ≤ 4096) : (headL l).length = 4096 := by
  unfold headL
  rw [List.length_append, List.length_drop, zero_len]; omega
theorem headL_splice (l : List Nat) : (splice (zeroL.map bv) 0 (l.map bv)).toArray = pgV (headL l) := by
  unfold splice pgV headL
  rw [List.take_zero, List.nil_append, Nat.zero_add, List.length_map, List.map_append, List.map_drop]
theorem headL_lt {l : List Nat} (h : ∀ i, l.getD i 0 < 256) (i : Nat) : (headL l).getD i 0 < 256 := by
  unfold headL
  rw [List.getD_eq_getElem?_getD]
  by_cases hi : i < l.length
  · rw [List.getElem?_append_left hi, ← List.getD_eq_getElem?_getD]; exact h i
  · rw [List.getElem?_append_right (by omega), List.getElem?_drop, ← List.getD_eq_getElem?_getD, zeroL_get]; decide
theorem pg_of_range {w : World} {p : Nat} {l : List Nat} (hl : l.length = 4096) (h : ∀ i, l.getD i 0 < 256) (hr : w.rangeAt p 0 (l.map bv)) (hf : ∀ i, w.frozen? ⟨p, i, none⟩ = false) : PgAt w p l := by
  refine ⟨hl, h, fun i hi => ?_, hf⟩
  have := hr i (bv (l.getD i 0)) (by
    rw [List.getElem?_map, List.getD_eq_getElem?_getD, List.getElem?_eq_getElem (by rw [hl]; exact hi)]
    rfl)
  rw [Nat.zero_add] at this
  exact this
theorem PgAt.there {w : World} {p : Nat} {l : List Nat} (h : PgAt w p l) : w.there p 0 4096 := fun j hj => by
  rw [Nat.zero_add]
  exact ⟨by rw [h.2.2.1 j hj]; rfl, h.2.2.2 j⟩
theorem zero_pg : (∀ w, (zeroValue 96).run Try.prog w = .ok (.agg zpg) w) ∧ (Try.prog.info? 96).map (·.size) = some 4096 := zero_of_info (by kernel_rfl)
theorem size8 : (Try.prog.info? 5).map (·.size) = some 1 := by kernel_rfl
end Go.Proofs.Ytmnpakfihfjfiaa
