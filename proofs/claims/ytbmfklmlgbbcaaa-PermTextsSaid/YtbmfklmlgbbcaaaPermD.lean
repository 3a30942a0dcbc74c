/- Contract of perm.places: the eight flags' addresses. -/
import Derived.Test.YtbmfklmlgbbcaaaPlan
import Derived.Test.YtbmfklmlgbbcaaaOpen
import Derived.BigRegion
namespace Go.Proofs.Ytbmfklmlgbbcaaa
open Go.RowKit

theorem save_set {g i : Nat} {w w' : World} {v : Value} (h : Save g w w') : Save g w (w'.setCell ⟨g, i, none⟩ v) := fun p hp => by
  rw [World.cell?_setCell_other _ _ _ _ (by rintro rfl; exact hp rfl)]; exact h p hp
theorem save_drew {g : Nat} {w w' : World} (h : Save g w w') : Save g w.drew w'.drew := h
theorem save_alloc (W : World) (o o' : Obj) : Save W.heap.size (W.alloc o) (W.alloc o') := fun p hp => by
  rcases Nat.lt_or_ge p.block W.heap.size with h | h
  · rw [World.cell?_alloc_lt _ _ _ h, World.cell?_alloc_lt _ _ _ h]
  · have h1 : ∀ q : Obj, (W.alloc q).heap[p.block]? = none := fun q => Array.getElem?_eq_none (by simp; omega)
    simp [World.cell?, h1]
theorem places_any (g : Nat) (W : World) :
    Calls Try.prog 20 #[.pointer (some ⟨g, 0, none⟩)] W fun e w' => e = .returned (.agg #[.pointer (some ⟨g, 0, none⟩), .pointer (some ⟨g, 1, none⟩), .pointer (some ⟨g, 2, none⟩), .pointer (some ⟨g, 3, none⟩), .pointer (some ⟨g, 4, none⟩), .pointer (some ⟨g, 5, none⟩), .pointer (some ⟨g, 6, none⟩), .pointer (some ⟨g, 7, none⟩)]) ∧ (W.alloc (.cells #[.pointer (some ⟨g, 0, none⟩), .pointer (some ⟨g, 1, none⟩), .pointer (some ⟨g, 2, none⟩), .pointer (some ⟨g, 3, none⟩), .pointer (some ⟨g, 4, none⟩), .pointer (some ⟨g, 5, none⟩), .pointer (some ⟨g, 6, none⟩), .pointer (some ⟨g, 7, none⟩)] 42)).drew = w' := by
  go_enter Try.func20, Try.ntmps20
  go_wp2
  refine wp_region_plan_by (Save W.heap.size) (later_save _) [(0, false), (1, false), (2, false), (3, false), (4, false), (5, false), (6, false), (7, false), (8, false), (9, false), (10, false), (11, false), (12, false), (13, false), (14, false), (15, false), (16, false), (17, false), (18, false), (19, false), (20, false), (21, false), (22, false), (23, false), (24, false), (25, true)] (by kernel_rfl) (by kernel_rfl) (fun _ d _ _ _ h => by cases d <;> exact h) ?_
  iterate 25 (refine plan_take (v := ?_) rfl (by kernel_rfl) ?_ ?_; rotate_left; (focus (intro w' hw'; go_simp; try with_reducible rfl)); simp only [Act.put, List.setIfInBounds_toArray, List.set_cons_zero, List.set_cons_succ])
  refine plan_turn rfl (by kernel_rfl) (fun K hK => ?_)
  go_simp
  refine hK _ _ ⟨save_alloc _ _ _, ?_⟩
  refine plan_end ?_
  go_wp2
  exact bodyPost_ret (v := .agg #[.pointer (some ⟨g, 0, none⟩), .pointer (some ⟨g, 1, none⟩), .pointer (some ⟨g, 2, none⟩), .pointer (some ⟨g, 3, none⟩), .pointer (some ⟨g, 4, none⟩), .pointer (some ⟨g, 5, none⟩), .pointer (some ⟨g, 6, none⟩), .pointer (some ⟨g, 7, none⟩)]) (by simp [results, Try.results20, go_sem]) rfl ⟨rfl, rfl⟩
end Go.Proofs.Ytbmfklmlgbbcaaa
