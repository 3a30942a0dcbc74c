/- Blocks known whole; worlds named; cells behind a callee that only makes memory. -/
import Derived.Test.YtophcgbddccpeaaGreatPlan
import Derived.Test.YtophcgbddccpeaaGreatOpen
namespace Go.Proofs.YtophcgbddccpeaaGreat
open Go.RowKit

theorem wp_world {P : Program} {c : Code} {Q : Exit → Act → World → Prop} {a : Act} {w : World} (h : ∀ w0, w0 = w → c.wp P Q a w0) : c.wp P Q a w := h w rfl
theorem save_set {g i : Nat} {w w' : World} {v : Value} (h : Save g w w') : Save g w (w'.setCell ⟨g, i, none⟩ v) := fun p hp => by
  rw [World.cell?_setCell_other _ _ _ _ (by rintro rfl; exact hp rfl)]; exact h p hp
theorem save_drew {g : Nat} {w w' : World} (h : Save g w w') : Save g w.drew w'.drew := h
theorem save_alloc (W : World) (o o' : Obj) : Save W.heap.size (W.alloc o) (W.alloc o') := fun p hp => by
  rcases Nat.lt_or_ge p.block W.heap.size with h | h
  · rw [World.cell?_alloc_lt _ _ _ h, World.cell?_alloc_lt _ _ _ h]
  · have h1 : ∀ q : Obj, (W.alloc q).heap[p.block]? = none := fun q => Array.getElem?_eq_none (by simp; omega)
    simp [World.cell?, h1]
theorem cell_lt {w : World} {a : Addr} {v : Value} (h : w.cell? a = some v) : a.block < w.heap.size := World.block_lt_of_cell? _ _ h
theorem cell_pass {w w' : World} {o : Obj} {p : Addr} {v : Value} (h : Below (w.alloc o).heap.size (w.alloc o) w') (hc : w.cell? p = some v) : w'.cell? p = some v := by
  have hl := cell_lt hc
  rw [h.cell (by simp; omega), World.cell?_alloc_lt _ _ _ hl]
  exact hc
theorem cell_new {w w' : World} {c : Array Value} {t : TypeId} {i : Nat} (h : Below (w.alloc (.cells c t)).heap.size (w.alloc (.cells c t)) w') : w'.cell? ⟨w.heap.size, i, none⟩ = c[i]? := by
  rw [h.cell (by simp), World.cell?_alloc_new]

/-- Block g is just these cells; which of them are frozen. -/
def Blkf (w : World) (g : Nat) (t : TypeId) (fr : Nat × Nat) (cs : Array Value) : Prop := w.heap[g]? = some (.cells cs t fr)
section
variable {w w' : World} {g : Nat} {t : TypeId} {cs : Array Value} {fr : Nat × Nat}
theorem Blkf.lt (h : Blkf w g t fr cs) : g < w.heap.size := by
  rcases Nat.lt_or_ge g w.heap.size with hlt | hge
  · exact hlt
  · unfold Blkf at h; rw [Array.getElem?_eq_none hge] at h; cases h
theorem Blkf.cell (h : Blkf w g t fr cs) (i : Nat) : w.cell? ⟨g, i, none⟩ = cs[i]? := cell_of_row w g i cs t fr h
theorem Blkf.frozen {lo hi : Nat} (h : Blkf w g t (lo, hi) cs) (i : Nat) : w.frozen? ⟨g, i, none⟩ = (decide (lo ≤ i) && decide (i < hi)) := by
  unfold Blkf at h
  simp [World.frozen?, h]
theorem Blkf.new_at {n : Nat} (w : World) (t : TypeId) (fr : Nat × Nat) (cs : Array Value) (hn : n = w.heap.size) : Blkf (w.alloc (.cells cs t fr)) n t fr cs := by subst hn; exact heap_alloc_new w _
theorem Blkf.drew (h : Blkf w g t fr cs) : Blkf w.drew g t fr cs := h
theorem Blkf.drewN (h : Blkf w g t fr cs) (n : Nat) : Blkf (w.drewN n) g t fr cs := h
theorem Blkf.alloc (h : Blkf w g t fr cs) (o : Obj) : Blkf (w.alloc o) g t fr cs := (Below.heap_alloc w o g h.lt).trans h
theorem Blkf.set_ (h : Blkf w g t fr cs) (i : Nat) (u : Value) : Blkf (w.setCell ⟨g, i, none⟩ u) g t fr (cs.setIfInBounds i u) := by
  unfold Blkf at h ⊢
  simp [World.setCell, Array.getElem?_modify, h]
theorem Blkf.far (h : Blkf w g t fr cs) {p : Addr} (hp : g ≠ p.block) (u : Value) : Blkf (w.setCell p u) g t fr cs := (Below.heap_setCell w p u g hp).trans h
theorem Blkf.below {B : Nat} (h : Blkf w g t fr cs) (hb : Below B w w') (hg : g < B) : Blkf w' g t fr cs := (hb.block g hg).trans h
end
abbrev Blk (w : World) (g : Nat) (t : TypeId) (cs : Array Value) : Prop := Blkf w g t (0, 0) cs
theorem Blk.frozen {w : World} {g : Nat} {t : TypeId} {cs : Array Value} (h : Blk w g t cs) (i : Nat) : w.frozen? ⟨g, i, none⟩ = false := by
  rw [Blkf.frozen h]; simp

/-- 'a[i]' of an array by value whose elements are one cell each. -/
theorem run_index_arr {P : Program} (w : World) (t e : TypeId) (n : Nat) (cs : Array Value) (k : IntKind) (i : Nat) (v : Value) (h : P.underlying t = some (.array n e))
    (hs : (Go.sizeOf e).run P w = .ok 1 w) (ha : (isAgg e).run P w = .ok false w) (hi : i < n) (hv : cs[i]? = some v) : (Instr.index t (.agg cs) (.int k (i : Int))).run P w = .ok v w := by
  have h1 : (0 : Int) ≤ (i : Int) ∧ (i : Int) < (n : Int) := by omega
  simp [Instr.index, run_underlying h, asIntOf, hs, part, ha, hv, hi]
end Go.Proofs.YtophcgbddccpeaaGreat
