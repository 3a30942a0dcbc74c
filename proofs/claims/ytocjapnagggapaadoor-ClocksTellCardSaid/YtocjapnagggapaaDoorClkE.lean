/- A fact met: pieces. -/
import Derived.Test.YtocjapnagggapaaDoorClkD
namespace Go.Proofs.YtocjapnagggapaaDoor
open Go.RowKit Go.Maps

section
variable {P : Program} {o : Oper} {a : Act} {w : World} {K : Act → World → Prop} {Q : Exit → Act → World → Prop}
theorem wo_row (ty : TypeId) (x y : Operand) (ho : o.op = .store ty x y) (g : Nat) (t : TypeId) (old cs : Array Value) (hx : a.eval x = .pointer (some ⟨g, 0, none⟩)) (hy : a.eval y = .agg cs)
    (hg : Blk w g t old) (hs : old.size = cs.size) (ht : rowT P ty cs.size = true) (h1 : cs.all (·.oneCell') = true) (h : K (a.put o.dst undef) (w.setRow g cs)) : o.wp P a w K Q := by
  obtain ⟨d, _, _, h3⟩ := rowT_spec ht
  exact wp_store_row ty x y ho g cs hx hy t old hg h3 hs h1 h
end
/-- These blocks are as they were. -/
def SameL (l : List Nat) (w w' : World) : Prop := ∀ b, b ∈ l → w'.heap[b]? = w.heap[b]?
theorem later_same (l : List Nat) : Later (SameL l) := ⟨fun _ _ _ => rfl, fun h k b hb => (k b hb).trans (h b hb)⟩
theorem SameL.cell {l : List Nat} {b i : Nat} {w w' : World} {v : Value} (h : SameL l w w') (hb : b ∈ l) (hc : w.cell? ⟨b, i, none⟩ = some v) : w'.cell? ⟨b, i, none⟩ = some v := by
  rw [World.cell?_of_block (a := ⟨b, i, none⟩) (h b hb)]; exact hc
theorem SameL.blk {l : List Nat} {b : Nat} {t : TypeId} {cs : Array Value} {w w' : World} (h : SameL l w w') (hb : b ∈ l) (hc : Blk w b t cs) : Blk w' b t cs := (h b hb).trans hc
theorem SameL.ext {l : List Nat} {w w' : World} (h : Ext w w') (hb : ∀ b, b ∈ l → b < w.heap.size) : SameL l w w' := fun b hm => h.block b (hb b hm)
theorem SameL.row {l : List Nat} {g : Nat} (w : World) (cs : Array Value) (h : ∀ b, b ∈ l → b ≠ g) : SameL l w (w.setRow g cs) := fun b hb => setRow_other w g b cs (h b hb)
theorem ext_alloc (w : World) (o : Go.Obj) : Ext w (w.alloc o) := (Ext.refl w).alloc (Nat.le_refl _) o

theorem Objs.front {W w : World} {os : List Obj} {a : Obj} (l : List Obj) (h : Objs W (l ++ a :: os) w) : Objs W (a :: (l ++ os)) w := by
  refine h.sub (fun i => if i = 0 then l.length else if i ≤ l.length then i - 1 else i) (fun i O hO => ?_) (fun i j hi hj e => ?_)
  · rcases Nat.eq_zero_or_pos i with rfl | hi
    · simp only [List.getElem?_cons_zero] at hO
      rw [if_pos rfl, List.getElem?_append_right (Nat.le_refl _), Nat.sub_self]
      exact hO
    · obtain ⟨j, rfl⟩ : ∃ j, i = j + 1 := ⟨i - 1, by omega⟩
      rw [List.getElem?_cons_succ] at hO
      rw [if_neg (by omega)]
      by_cases hj : j < l.length
      · rw [if_pos (by omega), Nat.add_sub_cancel, List.getElem?_append_left hj]
        rwa [List.getElem?_append_left hj] at hO
      · rw [if_neg (by omega), List.getElem?_append_right (by omega), show j + 1 - l.length = (j - l.length) + 1 by omega, List.getElem?_cons_succ]
        rwa [List.getElem?_append_right (by omega)] at hO
  · split at e <;> split at e <;> (try split at e) <;> (try split at e) <;> omega
theorem Objs.under {W w : World} {os : List Obj} {a : Obj} (l : List Obj) (h : Objs W (a :: (l ++ os)) w) : Objs W (l ++ a :: os) w := by
  refine h.sub (fun i => if i < l.length then i + 1 else if i = l.length then 0 else i) (fun i O hO => ?_) (fun i j hi hj e => ?_)
  · by_cases hi : i < l.length
    · rw [if_pos hi, List.getElem?_cons_succ, List.getElem?_append_left hi]
      rwa [List.getElem?_append_left hi] at hO
    · rw [if_neg hi]
      rw [List.getElem?_append_right (by omega)] at hO
      by_cases e : i = l.length
      · rw [if_pos e]
        rw [e, Nat.sub_self] at hO
        exact hO
      · rw [if_neg e]
        obtain ⟨j, rfl⟩ : ∃ j, i = j + 1 := ⟨i - 1, by omega⟩
        rw [List.getElem?_cons_succ, List.getElem?_append_right (by omega)]
        rw [show j + 1 - l.length = (j - l.length) + 1 by omega, List.getElem?_cons_succ] at hO
        exact hO
  · split at e <;> split at e <;> (try split at e) <;> (try split at e) <;> omega
theorem Objs.joinO {W w : World} {os : List Obj} (h : Objs W os w) (i : Nat) {b N : Nat} {t : TypeId} {f : Nat → Nat} (hi : os[i]? = some (blkO b t (fnC N f))) (off : Nat) (d : Nat → Nat) (hN : off + 16 ≤ N) :
    Calls Tryd.prog 27 #[.pointer (some ⟨b, off, none⟩), .agg (fnC 16 d)] w fun e w' => e = .returned (.tuple #[]) ∧ Objs W (os.set i (blkO b t (fnC N (joinK off f d 16)))) w' := by
  refine (h.turn (R := fun e => e = .returned (.tuple #[])) i (blkO b t (fnC N f)) (blkO b t (fnC N (joinK off f d 16))) hi (fun F hF => ?_)).mono fun e w' ⟨h1, h2, _⟩ => ⟨h1, h2⟩
  refine (join_any b off N t f d w hN hF.1).mono ?_
  rintro e w' ⟨rfl, h1, h2⟩
  exact ⟨rfl, F, ⟨h1, hF.2⟩, fun b hb => .inl hb, h2.mono fun x e => (hF.2 x).2 e⟩
/-- Cells laid in the middle of a row. -/
def putK (off : Nat) (f d : Nat → Nat) (k : Nat) : Nat → Nat := fun i => if off ≤ i ∧ i < off + k then d (i - off) else f i
theorem setCells_get (b : Nat) (t : TypeId) : ∀ (vs : List Value) (o : Nat) (w : World) (cs : Array Value), Blk w b t cs → o + vs.length ≤ cs.size → ∃ cs', Blk (w.setCells b o vs) b t cs' ∧ cs'.size = cs.size ∧ ∀ i, cs'[i]? = if o ≤ i ∧ i < o + vs.length then vs[i - o]? else cs[i]?
  | [], o, w, cs, h, _ => ⟨cs, h, rfl, fun i => by rw [if_neg (by intro hh; simp only [List.length_nil] at hh; omega)]⟩
  | v :: r, o, w, cs, h, hl => by
    rw [World.setCells]
    obtain ⟨cs', h1, h2, h3⟩ := setCells_get b t r (o + 1) _ _ (h.set_ o v) (by simp only [List.length_cons, Array.size_setIfInBounds] at hl ⊢; omega)
    refine ⟨cs', h1, by rw [h2]; simp, fun i => ?_⟩
    rw [h3 i, Array.getElem?_setIfInBounds]
    simp only [List.length_cons] at hl ⊢
    by_cases e : o = i
    · subst e
      rw [if_neg (by omega), if_pos rfl, if_pos (by omega), if_pos (by omega), Nat.sub_self]
      rfl
    · rw [if_neg e]
      by_cases h4 : o + 1 ≤ i ∧ i < o + 1 + r.length
      · rw [if_pos h4, if_pos (by omega), show i - o = (i - (o + 1)) + 1 by omega, List.getElem?_cons_succ]
      · rw [if_neg h4, if_neg (by omega)]
theorem setCells_fn {w : World} {b N off : Nat} {t : TypeId} {f d : Nat → Nat} (h : Blk w b t (fnC N f)) (hN : off + 16 ≤ N) : Blk (w.setCells b off (fnC 16 d).toList) b t (fnC N (putK off f d 16)) := by
  obtain ⟨cs', h1, h2, h3⟩ := setCells_get b t (fnC 16 d).toList off w _ h (by simp [fnC_size]; exact hN)
  have e : cs' = fnC N (putK off f d 16) := by
    apply Array.ext_getElem?
    intro i
    rw [h3 i]
    have hlen : (fnC 16 d).toList.length = 16 := by simp [fnC_size]
    rw [hlen]
    rcases Nat.lt_or_ge i N with hi | hi
    · rw [fnC_get (putK off f d 16) hi]
      by_cases h4 : off ≤ i ∧ i < off + 16
      · rw [if_pos h4, show putK off f d 16 i = d (i - off) from if_pos h4]
        have := fnC_get d (n := 16) (i := i - off) (by omega)
        rw [← this]
        simp
      · rw [if_neg h4, show putK off f d 16 i = f i from if_neg h4, fnC_get f hi]
    · rw [if_neg (by omega), Array.getElem?_eq_none (by rw [fnC_size]; exact hi), Array.getElem?_eq_none (by rw [fnC_size]; exact hi)]
  rw [← e]; exact h1
theorem setCells_keep (w : World) (b off : Nat) (vs : List Value) : Keeps (fun x => x = b) w (w.setCells b off vs) := setCells_keeps b vs off w
theorem Objs.mid {W w : World} {os : List Obj} (h : Objs W os w) (i : Nat) {b N off : Nat} {t : TypeId} {f d : Nat → Nat} (hi : os[i]? = some (blkO b t (fnC N f))) (hN : off + 16 ≤ N) : Objs W (os.set i (blkO b t (fnC N (putK off f d 16)))) (w.setCells b off (fnC 16 d).toList) :=
  (h.wrote i hi (setCells_fn (h.blk i hi) hN) (setCells_keep w b off _)).1
section
variable {P : Program} {ops : Array Oper} {rest : List Oper} {o : Oper} {a : Act} {w : World} {Q : Exit → Act → World → Prop}
theorem wl_mid (ty : TypeId) (x y : Operand) (ho : o.op = .store ty x y) (hgd : Region.wanted o (yielded ops a.tmps) = true) (b off : Nat) (cs : Array Value) (hx : a.eval x = .pointer (some ⟨b, off, none⟩)) (hy : a.eval y = .agg cs)
    (ht : w.there b off cs.size) (hr : rowT P ty cs.size = true) (h1 : cs.all (·.oneCell') = true) (h : wpList P ops Q rest (a.put o.dst undef) (w.setCells b off cs.toList)) : wpList P ops Q (o :: rest) a w := by
  obtain ⟨d, _, _, h3⟩ := rowT_spec hr
  exact BigFrame.wpList_want hgd fun K hK => wp_store_mid ty x y ho b off cs hx hy ht h3 h1 (hK _ _ h)
end
theorem there_fn {w : World} {b N off : Nat} {t : TypeId} {f d : Nat → Nat} (h : Blk w b t (fnC N f)) (hN : off + 16 ≤ N) : w.there b off (fnC 16 d).size := by
  rw [fnC_size]
  intro j hj
  constructor
  · rw [h.cell, fnC_get f (by omega)]; rfl
  · exact Blk.frozen h _
theorem range_fn {w : World} {b N off : Nat} {t : TypeId} {f d : Nat → Nat} (h : Blk w b t (fnC N f)) (hN : off + 16 ≤ N) (hd : ∀ i, i < 16 → f (off + i) = d i) : w.rangeAt b off (fnC 16 d).toList := fun j v hv => by
  have hj : j < 16 := by
    rcases Nat.lt_or_ge j 16 with h1 | h1
    · exact h1
    · rw [List.getElem?_eq_none (by simpa [fnC_size] using h1)] at hv; cases hv
  rw [h.cell, fnC_get _ (by omega), hd j hj]
  have := fnC_get d (n := 16) hj
  rw [← this, ← hv]
  simp
theorem putS_same (s : Bk) (at_ : Nat) : putS s at_ (s.la at_) (s.to at_) = s := by
  unfold putS updC
  congr 1
  · funext j; split
    · rename_i e; rw [e]
    · rfl
  · funext j; split
    · rename_i e; rw [e]
    · rfl
end Go.Proofs.YtocjapnagggapaaDoor
