/- '[]byte(s)' of a text that reads as bytes. -/
import Derived.Test.YtkkgigdgbiklmaaDoorByte
import Derived.Test.YtkkgigdgbiklmaaDoorByte
import Derived.Laws.IdiomStrings
namespace Go.Proofs.YtkkgigdgbiklmaaDoor
open Go.RowKit

theorem str_get (l : List Nat) (c i : Nat) (hi : i < l.length) (hl : ∀ i : Nat, l.getD i 0 < 256) : (bytesRow (strB l) c)[i]? = some (.int .u8 ((l.getD i 0 : Nat) : Int)) := by
  have hb := hl i
  rw [List.getD_eq_getElem?_getD, List.getElem?_eq_getElem hi] at hb
  have hb' : l[i] < 256 := hb
  unfold bytesRow strB
  rw [Array.getElem?_append_left (by simpa using hi)]
  simp [hi]
  omega
theorem conv_str (w : World) (l : List Nat) (hl : ∀ i : Nat, l.getD i 0 < 256) : ∃ c w', (convert 9 22 (.string (strB l))).run Tryd.prog w = .ok (.slice (some ⟨w.heap.size, 0, none⟩) l.length c) w' ∧
    Bts w' (some ⟨w.heap.size, 0, none⟩) l ∧ Below w.heap.size w w' ∧ l.length ≤ c := by
  have h := run_bytes_of_string (P := Tryd.prog) w 9 22 5 (strB l) Tryd.underlying9 Tryd.underlying22 Tryd.underlying5
  rw [strB_size] at h
  refine ⟨_, _, h, ?_, ((Below.refl _ w).drew).alloc (Nat.le_refl _) _, grownCap_ge w l.length 0 5⟩
  refine ⟨hl, fun h0 => ⟨_, 0, rfl, fun i hi => ?_⟩⟩
  rw [cell_of_row _ w.heap.size (0 + i) _ _ _ (heap_alloc_new w.drew _), Nat.zero_add]
  exact str_get l _ i hi hl
end Go.Proofs.YtkkgigdgbiklmaaDoor
