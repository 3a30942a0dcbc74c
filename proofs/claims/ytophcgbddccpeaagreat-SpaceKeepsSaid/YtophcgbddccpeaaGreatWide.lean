/- Structs of many cells, loaded and stored whole: no unrolling. -/
import Derived.Test.YtophcgbddccpeaaGreatSep
import Derived.Deep.MidRow
import Derived.Deep.WholeRow
import Derived.Laws.CopyOwn
namespace Go.Proofs.YtophcgbddccpeaaGreat
open Go.RowKit

/-- A type of n cells that is a struct or an array. -/
def rowT (P : Program) (t : TypeId) (n : Nat) : Bool := (match P.underlying t with | some d => d.isRow | none => false) && decide ((P.info? t).map (·.size) = some n)
theorem rowT_spec {P : Program} {t : TypeId} {n : Nat} (h : rowT P t n = true) : ∃ d, P.underlying t = some d ∧ d.isRow = true ∧ (P.info? t).map (·.size) = some n := by
  unfold rowT at h
  simp only [Bool.and_eq_true, decide_eq_true_eq] at h
  obtain ⟨h1, h2⟩ := h
  split at h1
  · rename_i d hd
    exact ⟨d, hd, h1, h2⟩
  · cases h1
section
variable {P : Program} {ops : Array Oper} {rest : List Oper} {o : Oper} {a : Act} {w : World} {Q : Exit → Act → World → Prop}
theorem wl_load (ty : TypeId) (x : Operand) (ho : o.op = .load ty x) (hgd : Region.wanted o (yielded ops a.tmps) = true) (b off : Nat) (cs : Array Value) (hx : a.eval x = .pointer (some ⟨b, off, none⟩)) (hc : w.rangeAt b off cs.toList)
    (ht : rowT P ty cs.size = true) (h : wpList P ops Q rest (a.put o.dst (.agg cs)) w) : wpList P ops Q (o :: rest) a w := by
  obtain ⟨d, h1, h2, h3⟩ := rowT_spec ht
  refine BigFrame.wpList_want hgd fun K hK => wp_load_mid ty x ho b off hx cs.toList d hc h1 h2 (by rw [h3]; simp) ?_
  rw [Array.toArray_toList]
  exact hK _ _ h
theorem wl_store (ty : TypeId) (x y : Operand) (ho : o.op = .store ty x y) (hgd : Region.wanted o (yielded ops a.tmps) = true) (g : Nat) (t : TypeId) (old cs : Array Value) (hx : a.eval x = .pointer (some ⟨g, 0, none⟩)) (hy : a.eval y = .agg cs)
    (hg : Blk w g t old) (hs : old.size = cs.size) (ht : rowT P ty cs.size = true) (h1 : cs.all (·.oneCell') = true)
    (h : wpList P ops Q rest (a.put o.dst undef) (w.setRow g cs)) : wpList P ops Q (o :: rest) a w := by
  obtain ⟨d, _, _, h3⟩ := rowT_spec ht
  exact BigFrame.wpList_want hgd fun K hK => wp_store_row ty x y ho g cs hx hy t old hg h3 hs h1 (hK _ _ h)
theorem wl_store_new (ty : TypeId) (x y : Operand) (ho : o.op = .store ty x y) (hgd : Region.wanted o (yielded ops a.tmps) = true) (w0 : World) (g : Nat) (t : TypeId) (c cs : Array Value) (hx : a.eval x = .pointer (some ⟨g, 0, none⟩)) (hy : a.eval y = .agg cs)
    (hw : w = w0.alloc (.cells c t)) (hg : g = w0.heap.size) (hs : c.size = cs.size) (ht : rowT P ty cs.size = true) (h1 : cs.all (·.oneCell') = true)
    (h : wpList P ops Q rest (a.put o.dst undef) (w0.alloc (.cells cs t))) : wpList P ops Q (o :: rest) a w := by
  subst hw hg
  refine wl_store ty x y ho hgd w0.heap.size t c cs hx hy (heap_alloc_last w0 _) hs ht h1 ?_
  rw [World.setRow_alloc_new]
  exact h
end
section
variable {w w' : World} {g g' : Nat} {t t' : TypeId} {old cs cs' : Array Value} {fr : Nat × Nat}
theorem Blkf.setRow (h : Blkf w g t fr old) (cs : Array Value) : Blkf (w.setRow g cs) g t fr cs := setRow_heap w g old cs t fr h
theorem Blkf.setRow_far (h : Blkf w g t fr cs) (hne : g ≠ g') (cs' : Array Value) : Blkf (w.setRow g' cs') g t fr cs := (setRow_other w g' g cs' hne).trans h
theorem Keeps.setRow {F : Nat → Prop} (h : Keeps F w w') (hp : F g ∨ w.heap.size ≤ g) (cs : Array Value) : Keeps F w (w'.setRow g cs) :=
  ⟨h.os, h.tape, h.output, Nat.le_trans h.size (by simp), fun i hi hf => (setRow_other w' g i cs (fun e => by subst e; rcases hp with hp | hp; exact hf hp; omega)).trans (h.block i hi hf)⟩
theorem Blkf.range (h : Blkf w g t fr cs) : w.rangeAt g 0 cs.toList := fun j v hv => by
  rw [Nat.zero_add, h.cell]
  simpa using hv
theorem range_below {b o : Nat} {l : List Value} (h : w.rangeAt b o l) (hb : Below w.heap.size w w') : w'.rangeAt b o l := fun j v hv => by
  have h1 := h j v hv
  rw [hb.cell (cell_lt h1)]
  exact h1
theorem range_keeps {F : Nat → Prop} {b o : Nat} {l : List Value} (h : w.rangeAt b o l) (hb : Keeps F w w') (hF : ¬ F b) : w'.rangeAt b o l := fun j v hv => by
  have h1 := h j v hv
  have h2 := hb.block b (cell_lt h1) hF
  simp only [World.cell?] at h1 ⊢
  rw [h2]
  exact h1
end
theorem setCells_keeps (b : Nat) : ∀ (vs : List Value) (o : Nat) (w : World), Keeps (fun g => g = b) w (w.setCells b o vs)
  | [], _, w => Keeps.refl _ w
  | v :: r, o, w => by
    rw [World.setCells]
    exact ((Keeps.refl (fun g => g = b) w).setCell (p := ⟨b, o, none⟩) (.inl rfl) v).same (setCells_keeps b r (o + 1) _)
theorem run_load_op {P : Program} {o : Oper} {a : Act} {w : World} (ty : TypeId) (x : Operand) (ho : o.op = .load ty x) (b off : Nat) (cs : Array Value) (hx : a.eval x = .pointer (some ⟨b, off, none⟩)) (hc : w.rangeAt b off cs.toList)
    (ht : rowT P ty cs.size = true) : (execOp a.eval o).run P w = .ok (.value (.agg cs)) w := by
  obtain ⟨d, h1, h2, h3⟩ := rowT_spec ht
  unfold execOp
  simp only [ho, hx, Instr.loadAt, Instr.sureAddr, Sem.run_bind, Sem.run_pure, Result.andThen_ok, run_loadVar_mid w b off ty cs.toList d hc h1 h2 (by rw [h3]; simp), Array.toArray_toList]
theorem wo_store {P : Program} {o : Oper} {a : Act} {w : World} {K : Act → World → Prop} {Q : Exit → Act → World → Prop} (ty : TypeId) (x y : Operand) (ho : o.op = .store ty x y) (b off : Nat) (cs : Array Value) (hx : a.eval x = .pointer (some ⟨b, off, none⟩)) (hy : a.eval y = .agg cs)
    (ht : w.there b off cs.size) (hr : rowT P ty cs.size = true) (h1 : cs.all (·.oneCell') = true) (h : K (a.put o.dst undef) (w.setCells b off cs.toList)) : o.wp P a w K Q := by
  obtain ⟨d, _, _, h3⟩ := rowT_spec hr
  exact wp_store_mid ty x y ho b off cs hx hy ht h3 h1 h
/-- Results: one cell, or one cell and a slot. -/
theorem res_cell {P : Program} {fn : Func} {p : Tmp} {ty : TypeId} (h : fn.results = #[.cell p ty]) (tmps : Array Value) (w : World) (g : Nat) (t : TypeId) (cs : Array Value) (hp : tmps.getD p undef = .pointer (some ⟨g, 0, none⟩)) (hg : Blk w g t cs)
    (ht : rowT P ty cs.size = true) : (results fn tmps).run P w = .ok (.agg cs) w := by
  obtain ⟨d, h1, h2, h3⟩ := rowT_spec ht
  have hp' : tmps[p]?.getD undef = .pointer (some ⟨g, 0, none⟩) := by simpa using hp
  have hl := run_loadVar_row (P := P) w g t ty cs (0, 0) d hg h1 (by cases d <;> simp_all) h3
  simp [results, h, hp', asAddr, hl]
theorem res_cell_slot {P : Program} {fn : Func} {p q : Tmp} {ty : TypeId} (h : fn.results = #[.cell p ty, .tmp q]) (tmps : Array Value) (w : World) (g : Nat) (t : TypeId) (cs : Array Value) (v : Value) (hp : tmps.getD p undef = .pointer (some ⟨g, 0, none⟩)) (hq : tmps.getD q undef = v) (hg : Blk w g t cs)
    (ht : rowT P ty cs.size = true) : (results fn tmps).run P w = .ok (.tuple #[.agg cs, v]) w := by
  obtain ⟨d, h1, h2, h3⟩ := rowT_spec ht
  have hp' : tmps[p]?.getD undef = .pointer (some ⟨g, 0, none⟩) := by simpa using hp
  have hq' : tmps[q]?.getD undef = v := by simpa using hq
  have hl := run_loadVar_row (P := P) w g t ty cs (0, 0) d hg h1 (by cases d <;> simp_all) h3
  simp [results, h, hp', hq', asAddr, hl]
end Go.Proofs.YtophcgbddccpeaaGreat
