/- Which blocks a step may turn: a footprint; the world elsewhere is as it was. -/
import Derived.Test.YtophcgbddccpeaaGreatMem
import Derived.Laws.OwnMore
import Derived.Maps.OwnSet
import Derived.WalkSmall
namespace Go.Proofs.YtophcgbddccpeaaGreat
open Go.RowKit

/-- Outside F the blocks that stood are as they were. -/
structure Keeps (F : Nat → Prop) (w w' : World) : Prop where
  os : w'.os = w.os
  tape : w'.tape = w.tape
  output : w'.output = w.output
  size : w.heap.size ≤ w'.heap.size
  block : ∀ k, k < w.heap.size → ¬ F k → w'.heap[k]? = w.heap[k]?
section
variable {F G : Nat → Prop} {w w' w'' : World}
theorem Keeps.refl (F : Nat → Prop) (w : World) : Keeps F w w := ⟨rfl, rfl, rfl, Nat.le_refl _, fun _ _ _ => rfl⟩
theorem Keeps.trans (h : Keeps F w w') (k : Keeps G w' w'') (hG : ∀ i, G i → F i ∨ w.heap.size ≤ i) : Keeps F w w'' :=
  ⟨k.os.trans h.os, k.tape.trans h.tape, k.output.trans h.output, Nat.le_trans h.size k.size, fun i hi hf =>
    (k.block i (Nat.lt_of_lt_of_le hi h.size) (fun hg => (hG i hg).elim hf (fun hle => by omega))).trans (h.block i hi hf)⟩
theorem Keeps.same (h : Keeps F w w') (k : Keeps F w' w'') : Keeps F w w'' := h.trans k (fun _ hi => .inl hi)
theorem Keeps.mono (h : Keeps F w w') (hG : ∀ i, F i → G i) : Keeps G w w' := ⟨h.os, h.tape, h.output, h.size, fun i hi hf => h.block i hi (fun hx => hf (hG i hx))⟩
theorem Keeps.drew (h : Keeps F w w') : Keeps F w w'.drew := ⟨h.os, h.tape, h.output, h.size, h.block⟩
theorem Keeps.alloc (h : Keeps F w w') (o : Obj) : Keeps F w (w'.alloc o) :=
  ⟨h.os, h.tape, h.output, Nat.le_trans h.size (by simp), fun i hi hf => (Below.heap_alloc w' o i (Nat.lt_of_lt_of_le hi h.size)).trans (h.block i hi hf)⟩
theorem Keeps.setCell (h : Keeps F w w') {p : Addr} (hp : F p.block ∨ w.heap.size ≤ p.block) (u : Value) : Keeps F w (w'.setCell p u) :=
  ⟨h.os, h.tape, h.output, Nat.le_trans h.size (by simp), fun i hi hf => (Below.heap_setCell w' p u i (fun e => by subst e; rcases hp with hp | hp; exact hf hp; omega)).trans (h.block i hi hf)⟩
theorem Keeps.grown {row : Option Nat} (h : Keeps F w w') (hg : w'.grownBy w'' row) (hr : ∀ g, row = some g → F g ∨ w.heap.size ≤ g) : Keeps F w w'' :=
  ⟨hg.os.trans h.os, hg.tape.trans h.tape, hg.output.trans h.output, Nat.le_trans h.size hg.size, fun i hi hf =>
    (hg.block i (Nat.lt_of_lt_of_le hi h.size) (fun e => (hr i e.symm).elim hf (fun hle => by omega))).trans (h.block i hi hf)⟩
theorem Keeps.of_below (h : Below w.heap.size w w') : Keeps F w w' := ⟨h.os, h.tape, h.output, h.size, fun i hi _ => h.block i hi⟩
theorem Keeps.below {B : Nat} (h : Keeps F w w') (hF : ∀ i, F i → B ≤ i) (hB : B ≤ w.heap.size) : Below B w w' :=
  ⟨h.os, h.tape, h.output, h.size, fun i hi => h.block i (Nat.lt_of_lt_of_le hi hB) (fun hf => by have := hF i hf; omega)⟩
theorem Keeps.to_grown (h : Keeps F w w') {row : Option Nat} (hF : ∀ i, F i → some i = row) : w.grownBy w' row :=
  ⟨h.os, h.tape, h.output, h.size, fun i hi hne => h.block i hi (fun hf => hne (hF i hf))⟩
theorem Keeps.blk {g : Nat} {t : TypeId} {fr : Nat × Nat} {cs : Array Value} (h : Keeps F w w') (hb : Blkf w g t fr cs) (hg : ¬ F g) : Blkf w' g t fr cs := (h.block g hb.lt hg).trans hb
theorem Keeps.row {base : Nat} {e : TypeId} {size n : Nat} {v : Value} {xs : List Value} (h : Keeps F w w') (ho : w.ownsRow base e size v n xs) (hv : ∀ g, v.ownBlock = some g → ¬ F g) : w'.ownsRow base e size v n xs := by
  refine ⟨ho.1, ?_⟩
  rcases ho.2 with h2 | ⟨g, cap, cur, hv2, hb, hh, r⟩
  · exact .inl h2
  · subst hv2
    exact .inr ⟨g, cap, cur, rfl, hb, (h.block g (ho.lt g rfl).2 (hv g rfl)).trans hh, r⟩
theorem Keeps.map {P : Program} {k : TypeId} {R : Value → Option (DataW Unit × List MemPlace)} {b n : Nat} {D : DataW Unit} (h : Keeps F w w') (ho : w.ownsMap P k R b n D) (hb : ¬ F b) : w'.ownsMap P k R b n D := by
  have hlt := ho.lt
  obtain ⟨es, clock, hh, r⟩ := ho
  exact ⟨es, clock, (h.block b hlt hb).trans hh, r⟩
end
theorem below_step {B : Nat} {w w1 w2 : World} {F : Nat → Prop} (h : Below B w w1) (k : Keeps F w1 w2) (hF : ∀ i, F i → B ≤ i) (hB : B ≤ w1.heap.size) : Below B w w2 := h.trans (k.below hF hB)
theorem Blkf.grown {w w' : World} {g : Nat} {t : TypeId} {cs : Array Value} {fr : Nat × Nat} {row : Option Nat} (h : Blkf w g t fr cs) (hb : w.grownBy w' row) (hg : some g ≠ row) : Blkf w' g t fr cs := (hb.block g h.lt hg).trans h
theorem blk_ne_blk {w : World} {g g' : Nat} {t t' : TypeId} {cs cs' : Array Value} {fr fr' : Nat × Nat} (h : Blkf w g t fr cs) (h' : Blkf w g' t' fr' cs') (hne : t ≠ t') : g ≠ g' := by
  rintro rfl
  unfold Blkf at h h'
  rw [h] at h'
  injection h' with h'
  injection h' with _ ht
  exact hne ht
theorem row_ne_blk {w : World} {base size n g : Nat} {e t : TypeId} {v : Value} {xs : List Value} {cs : Array Value} {fr : Nat × Nat} (h : w.ownsRow base e size v n xs) (hb : Blkf w g t fr cs) (hne : e ≠ t) : v.ownBlock ≠ some g := by
  rcases h.2 with ⟨rfl, _⟩ | ⟨g', cap, cur, rfl, _, hh, _⟩
  · simp [Value.ownBlock]
  · intro he
    have : g' = g := by simpa [Value.ownBlock] using he
    subst this
    exact blk_ne_blk (t := e) (fr := (0, 0)) hh hb hne rfl
theorem map_ne_blk {w : World} {P : Program} {k t : TypeId} {R : Value → Option (DataW Unit × List MemPlace)} {b n g : Nat} {D : DataW Unit} {cs : Array Value} {fr : Nat × Nat} (h : w.ownsMap P k R b n D) (hb : Blkf w g t fr cs) : b ≠ g := by
  rintro rfl
  obtain ⟨es, clock, hh, _⟩ := h
  unfold Blkf at hb
  rw [hh] at hb
  cases hb
theorem row_ne_map {w : World} {P : Program} {k : TypeId} {R : Value → Option (DataW Unit × List MemPlace)} {b n base size m : Nat} {D : DataW Unit} {e : TypeId} {v : Value} {xs : List Value} (h : w.ownsRow base e size v m xs) (hm : w.ownsMap P k R b n D) : v.ownBlock ≠ some b := by
  rcases h.2 with ⟨rfl, _⟩ | ⟨g', cap, cur, rfl, _, hh, _⟩
  · simp [Value.ownBlock]
  · intro he
    have : g' = b := by simpa [Value.ownBlock] using he
    subst this
    obtain ⟨es, clock, h2, _⟩ := hm
    rw [h2] at hh
    cases hh
end Go.Proofs.YtophcgbddccpeaaGreat
