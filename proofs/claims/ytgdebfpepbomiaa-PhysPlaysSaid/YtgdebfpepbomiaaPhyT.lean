/- Rows of bytes of the law's own, turned byte by byte. -/
import Derived.Test.YtgdebfpepbomiaaPhyR
namespace Go.Proofs.Ytgdebfpepbomiaa
open Go.RowKit

def RowU (w : World) (rb m : Nat) : Prop := ∀ i, i < m → (∃ y : Int, w.cell? ⟨rb, i, none⟩ = some (.int .u8 y)) ∧ w.frozen? ⟨rb, i, none⟩ = false
theorem RowU.block {w w' : World} {rb m : Nat} (h : RowU w rb m) (hb : 0 < m → w'.heap[rb]? = w.heap[rb]?) : RowU w' rb m := fun i hi => by
  obtain ⟨⟨y, h1⟩, h2⟩ := h i hi
  have e := hb (by omega)
  exact ⟨⟨y, (World.cell?_of_block (a := ⟨rb, i, none⟩) e).trans h1⟩, (World.frozen?_of_block (a := ⟨rb, i, none⟩) e).trans h2⟩
theorem RowU.lt {w : World} {rb m : Nat} (h : RowU w rb m) (hm : 0 < m) : rb < w.heap.size := by
  obtain ⟨⟨y, h1⟩, _⟩ := h 0 hm
  exact cell_lt h1
theorem RowU.below {w w' : World} {rb m : Nat} (h : RowU w rb m) (hb : Below w.heap.size w w') : RowU w' rb m := h.block fun hm => hb.block rb (h.lt hm)
theorem RowU.set {w : World} {rb m : Nat} (h : RowU w rb m) (k : Nat) (y : Int) : RowU (w.setCell ⟨rb, k, none⟩ (.int .u8 y)) rb m := fun i hi => by
  obtain ⟨⟨z, h1⟩, h2⟩ := h i hi
  refine ⟨?_, by rw [World.frozen?_setCell]; exact h2⟩
  by_cases e : i = k
  · subst e
    exact ⟨y, by rw [World.cell?_setCell_same _ _ _ (by rw [h1])]⟩
  · exact ⟨z, by rw [World.cell?_setCell_other _ _ _ _ (fun e2 => e (by simp at e2))]; exact h1⟩
theorem play_row {W w w' : World} {P : Nat → Prop} {gm xb n : Nat} {L : List (Nat × Nat)} {S : Nat → List Nat} {v : Value} {l : List Nat} {m : Nat} (h : Play W P gm xb n L S w) (hm : l.length = m)
    (ho : w'.ownsRow w.heap.size 5 1 v l.length (l.map bv)) (hb : Below w.heap.size w w') :
    ∃ rb A c, v = .slice A m c ∧ (0 < m → A = some ⟨rb, 0, none⟩ ∧ w.heap.size ≤ rb) ∧ Play W (fun c => P c ∨ (0 < m ∧ c = rb)) gm xb n L S w' ∧ RowU w' rb m := by
  subst hm
  rcases Nat.eq_zero_or_pos l.length with h0 | h0
  · obtain ⟨A, c, rfl⟩ := row_form ho
    refine ⟨0, A, c, rfl, fun h => by omega, (h.below hb).only (fun b hb' => ?_), fun i hi => by omega⟩
    rcases hb' with h1 | h1
    · exact h1
    · omega
  · obtain ⟨rb, c, rfl, h1, h2⟩ := ho.form h0
    refine ⟨rb, _, c, rfl, fun _ => ⟨rfl, h1⟩, (h.add hb h1 h2).only (fun b hb' => ?_), fun i hi => ⟨⟨_, (ho.cellAt i (by omega)).trans (cellB_of hi)⟩, ?_⟩⟩
    · rcases hb' with h1 | h1
      · exact .inl h1
      · exact .inr h1.2
    · exact own_frozen ho (A := ⟨rb, 0, none⟩) rfl _
end Go.Proofs.Ytgdebfpepbomiaa
