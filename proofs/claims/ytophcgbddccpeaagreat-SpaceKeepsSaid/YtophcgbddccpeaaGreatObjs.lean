/- Objects side by side in one world: each in blocks of its own. -/
import Derived.Test.YtophcgbddccpeaaGreatWide
namespace Go.Proofs.YtophcgbddccpeaaGreat
open Go.RowKit

/-- An object: what its blocks hold; it stays where only other blocks are turned. -/
structure Obj where
  At : World → (Nat → Prop) → Prop
  keeps : ∀ {w w' : World} {F H : Nat → Prop}, At w F → Keeps H w w' → (∀ b, F b → ¬ H b) → At w' F
  lt : ∀ {w : World} {F : Nat → Prop} {b : Nat}, At w F → F b → b < w.heap.size
/-- A block that is known whole. -/
def blkO (b : Nat) (t : TypeId) (cs : Array Value) : Obj where
  At w F := Blk w b t cs ∧ ∀ x, F x ↔ x = b
  keeps := fun h k hd => ⟨k.blk h.1 (hd _ ((h.2 _).2 rfl)), h.2⟩
  lt := fun h hb => by rw [(h.2 _).1 hb]; exact h.1.lt
/-- Nothing. -/
def nilO : Obj where
  At _ F := ∀ b, ¬ F b
  keeps := fun h _ _ => h
  lt := fun h hb => absurd hb (h _)
/-- What a call makes of an object. -/
def ObjTo (O : Obj) (F : Nat → Prop) (w w' : World) : Prop := ∃ F', O.At w' F' ∧ (∀ b, F' b → F b ∨ w.heap.size ≤ b) ∧ Keeps F w w'
structure Objs (W : World) (os : List Obj) (w : World) : Prop where
  ex : ∃ Fs : List (Nat → Prop), Fs.length = os.length ∧ (∀ (i : Nat) O F, os[i]? = some O → Fs[i]? = some F → O.At w F) ∧ (∀ (i j : Nat) F G, Fs[i]? = some F → Fs[j]? = some G → i ≠ j → ∀ b, F b → ¬ G b) ∧ ∀ (i : Nat) F, Fs[i]? = some F → ∀ b, F b → W.heap.size ≤ b
  bel : Below W.heap.size W w
section
variable {W w w' w0 : World} {os : List Obj}
theorem Objs.nil (h : Below W.heap.size W w) : Objs W [] w := ⟨⟨[], rfl, fun i O F h => by simp at h, fun i j F G h => by simp at h, fun i F h => by simp at h⟩, h⟩
theorem Objs.step (h : Objs W os w) (hb : Below w.heap.size w w') : Objs W os w' := by
  obtain ⟨Fs, h1, h2, h3, h4⟩ := h.ex
  have k : Keeps (fun _ => False) w w' := Keeps.of_below hb
  exact ⟨⟨Fs, h1, fun i O F ho hf => O.keeps (h2 i O F ho hf) k (fun _ _ h => h), h3, h4⟩, h.bel.trans (hb.mono h.bel.size)⟩
theorem Objs.drew (h : Objs W os w) : Objs W os w.drew := h.step (Below.refl _ _).drew
theorem get_len {α β : Type} {l : List α} {m : List β} (h : m.length = l.length) {i : Nat} {x : α} (hx : l[i]? = some x) : ∃ y, m[i]? = some y := ⟨_, List.getElem?_eq_getElem (by rw [h]; exact (List.getElem?_eq_some_iff.1 hx).1)⟩
theorem Objs.get (h : Objs W os w) (i : Nat) (O : Obj) (hi : os[i]? = some O) : ∃ F, O.At w F := by
  obtain ⟨Fs, h1, h2, h3, h4⟩ := h.ex
  obtain ⟨F, hF⟩ := get_len h1 hi
  exact ⟨F, h2 i O F hi hF⟩
/-- An object has been made. -/
theorem Objs.add {O : Obj} {F : Nat → Prop} (h : Objs W os w0) (hs : Below w0.heap.size w0 w) (ho : O.At w F) (hF : ∀ b, F b → w0.heap.size ≤ b) : Objs W (O :: os) w := by
  have hst := h.step hs
  obtain ⟨Fs, h1, h2, h3, h4⟩ := h.ex
  obtain ⟨Fs', h1', h2', h3', h4'⟩ := hst.ex
  have k : Keeps (fun _ => False) w0 w := Keeps.of_below hs
  have old : ∀ (i : Nat) G, Fs[i]? = some G → ∀ b, G b → b < w0.heap.size := fun i G hG b hb => by
    obtain ⟨O2, hO2⟩ := get_len h1.symm hG
    exact O2.lt (h2 i O2 G hO2 hG) hb
  refine ⟨⟨F :: Fs, by simp [h1], fun i O2 F2 ho2 hf2 => ?_, fun i j F2 G2 hf2 hg2 hij b hb hb2 => ?_, fun i F2 hf2 b hb => ?_⟩, hst.bel⟩
  · cases i with
    | zero =>
      simp only [List.getElem?_cons_zero, Option.some.injEq] at ho2 hf2
      subst ho2; subst hf2; exact ho
    | succ i =>
      rw [List.getElem?_cons_succ] at ho2 hf2
      exact O2.keeps (h2 i O2 F2 ho2 hf2) k (fun _ _ h => h)
  · cases i with
    | zero =>
      cases j with
      | zero => exact hij rfl
      | succ j =>
        simp only [List.getElem?_cons_zero, Option.some.injEq] at hf2
        rw [List.getElem?_cons_succ] at hg2
        subst hf2
        have := hF b hb
        have := old j G2 hg2 b hb2
        omega
    | succ i =>
      rw [List.getElem?_cons_succ] at hf2
      cases j with
      | zero =>
        simp only [List.getElem?_cons_zero, Option.some.injEq] at hg2
        subst hg2
        have := hF b hb2
        have := old i F2 hf2 b hb
        omega
      | succ j =>
        rw [List.getElem?_cons_succ] at hg2
        exact h3 i j F2 G2 hf2 hg2 (by omega) b hb hb2
  · cases i with
    | zero =>
      simp only [List.getElem?_cons_zero, Option.some.injEq] at hf2
      subst hf2
      exact Nat.le_trans h.bel.size (hF b hb)
    | succ i =>
      rw [List.getElem?_cons_succ] at hf2
      exact h4 i F2 hf2 b hb
theorem Objs.push (h : Objs W os w) (cs : Array Value) (t : TypeId) {b : Nat} (hb : b = w.heap.size) : Objs W (blkO b t cs :: os) (w.alloc (.cells cs t)) := by
  subst hb
  exact h.add (F := fun x => x = w.heap.size) ((Below.refl _ _).alloc (Nat.le_refl _) _) ⟨Blkf.new_at _ _ _ _ rfl, fun _ => Iff.rfl⟩ (fun b e => by rw [e]; exact Nat.le_refl _)
theorem Objs.blk (h : Objs W os w) (i : Nat) {b : Nat} {t : TypeId} {cs : Array Value} (hi : os[i]? = some (blkO b t cs)) : Blk w b t cs := by
  obtain ⟨F, h1, _⟩ := h.get i _ hi
  exact h1
/-- Some are forgotten, or stand in another order. -/
theorem Objs.sub {os' : List Obj} (h : Objs W os w) (f : Nat → Nat) (hf : ∀ i O, os'[i]? = some O → os[f i]? = some O) (hinj : ∀ i j, i < os'.length → j < os'.length → f i = f j → i = j) : Objs W os' w := by
  obtain ⟨Fs, h1, h2, h3, h4⟩ := h.ex
  have get : ∀ (i : Nat) G, ((List.range os'.length).map (fun i => Fs.getD (f i) (fun _ => False)))[i]? = some G → i < os'.length ∧ Fs[f i]? = some G := fun i G hG => by
    have hi : i < os'.length := by have := (List.getElem?_eq_some_iff.1 hG).1; simpa using this
    rw [List.getElem?_map, List.getElem?_range hi] at hG
    simp only [Option.map_some, Option.some.injEq] at hG
    obtain ⟨O, hO⟩ : ∃ O, os'[i]? = some O := ⟨_, List.getElem?_eq_getElem hi⟩
    obtain ⟨F, hF⟩ := get_len h1 (hf i O hO)
    refine ⟨hi, ?_⟩
    rw [← hG, List.getD_eq_getElem?_getD, hF]
    rfl
  refine ⟨⟨(List.range os'.length).map (fun i => Fs.getD (f i) (fun _ => False)), by simp, fun i O F ho hF => ?_, fun i j F G hF hG hij => ?_, fun i F hF => ?_⟩, h.bel⟩
  · exact h2 (f i) O F (hf i O ho) (get i F hF).2
  · obtain ⟨a1, a2⟩ := get i F hF
    obtain ⟨b1, b2⟩ := get j G hG
    exact h3 (f i) (f j) F G a2 b2 (fun e => hij (hinj i j a1 b1 e))
  · exact h4 (f i) F (get i F hF).2
theorem Objs.drop (h : Objs W os w) (n : Nat) : Objs W (os.drop n) w := h.sub (fun i => n + i) (fun i O ho => by rw [List.getElem?_drop] at ho; exact ho) (fun i j _ _ e => by omega)
/-- One object turns. -/
theorem Objs.turned (h : Objs W os w) (i : Nat) {O' : Obj} {F F' : Nat → Prop} {Fs : List (Nat → Prop)} (h1 : Fs.length = os.length) (h2 : ∀ (i : Nat) O F, os[i]? = some O → Fs[i]? = some F → O.At w F) (h3 : ∀ (i j : Nat) F G, Fs[i]? = some F → Fs[j]? = some G → i ≠ j → ∀ b, F b → ¬ G b) (h4 : ∀ (i : Nat) F, Fs[i]? = some F → ∀ b, F b → W.heap.size ≤ b)
    (hF : Fs[i]? = some F) (ho : O'.At w' F') (hn : ∀ b, F' b → F b ∨ w.heap.size ≤ b) (k : Keeps F w w') : Objs W (os.set i O') w' ∧ Below W.heap.size w w' := by
  have hb := k.below (B := W.heap.size) (h4 i F hF) h.bel.size
  have hil : i < Fs.length := (List.getElem?_eq_some_iff.1 hF).1
  have old : ∀ (i : Nat) G, Fs[i]? = some G → ∀ b, G b → b < w.heap.size := fun i G hG b hb => by
    obtain ⟨O2, hO2⟩ := get_len h1.symm hG
    exact O2.lt (h2 i O2 G hO2 hG) hb
  have get : ∀ (j : Nat) G, (Fs.set i F')[j]? = some G → (j = i ∧ G = F') ∨ (j ≠ i ∧ Fs[j]? = some G) := fun j G hG => by
    by_cases e : j = i
    · subst e
      rw [List.getElem?_set_self hil] at hG
      injection hG with hG
      exact .inl ⟨rfl, hG.symm⟩
    · rw [List.getElem?_set_ne (fun e2 => e e2.symm)] at hG
      exact .inr ⟨e, hG⟩
  refine ⟨⟨⟨Fs.set i F', by simp [h1], fun j O2 G hO2 hG => ?_, fun j l G1 G2 hG1 hG2 hjl b hb1 hb2 => ?_, fun j G hG b hb1 => ?_⟩, h.bel.trans hb⟩, hb⟩
  · rcases get j G hG with ⟨rfl, rfl⟩ | ⟨e, hG⟩
    · rw [List.getElem?_set_self (by rw [← h1]; exact hil)] at hO2
      injection hO2 with hO2
      subst hO2
      exact ho
    · rw [List.getElem?_set_ne (fun e2 => e e2.symm)] at hO2
      exact O2.keeps (h2 j O2 G hO2 hG) k (h3 j i G F hG hF e)
  · rcases get j G1 hG1 with ⟨e1, f1⟩ | ⟨e1, g1⟩
    · rcases get l G2 hG2 with ⟨e2, f2⟩ | ⟨e2, g2⟩
      · exact hjl (e1.trans e2.symm)
      · rw [f1] at hb1
        rcases hn b hb1 with h5 | h5
        · exact h3 i l F G2 hF g2 (fun e => e2 e.symm) b h5 hb2
        · have := old l G2 g2 b hb2; omega
    · rcases get l G2 hG2 with ⟨e2, f2⟩ | ⟨e2, g2⟩
      · rw [f2] at hb2
        rcases hn b hb2 with h5 | h5
        · exact h3 j i G1 F g1 hF e1 b hb1 h5
        · have := old j G1 g1 b hb1; omega
      · exact h3 j l G1 G2 g1 g2 hjl b hb1 hb2
  · rcases get j G hG with ⟨rfl, rfl⟩ | ⟨e, hG⟩
    · rcases hn b hb1 with h5 | h5
      · exact h4 j F hF b h5
      · exact Nat.le_trans h.bel.size h5
    · exact h4 j G hG b hb1
theorem Objs.turnE {P : Program} {f : FuncId} {args : Array Value} {R : Ending → Obj → Prop} (h : Objs W os w) (i : Nat) (O : Obj) (hi : os[i]? = some O) (hc : ∀ F, O.At w F → Calls P f args w fun e w' => ∃ O', R e O' ∧ ObjTo O' F w w') :
    Calls P f args w fun e w' => ∃ O', R e O' ∧ Objs W (os.set i O') w' ∧ Below W.heap.size w w' := by
  obtain ⟨Fs, h1, h2, h3, h4⟩ := h.ex
  obtain ⟨F, hF⟩ := get_len h1 hi
  refine (hc F (h2 i O F hi hF)).mono ?_
  rintro e w' ⟨O', hr, F', k1, k2, k3⟩
  exact ⟨O', hr, h.turned i h1 h2 h3 h4 hF k1 k2 k3⟩
theorem Objs.turn {P : Program} {f : FuncId} {args : Array Value} {R : Ending → Prop} (h : Objs W os w) (i : Nat) (O O' : Obj) (hi : os[i]? = some O) (hc : ∀ F, O.At w F → Calls P f args w fun e w' => R e ∧ ObjTo O' F w w') :
    Calls P f args w fun e w' => R e ∧ Objs W (os.set i O') w' ∧ Below W.heap.size w w' := by
  refine (h.turnE (R := fun e Q => R e ∧ Q = O') i O hi (fun F hF => (hc F hF).mono fun e w' ⟨h1, h2⟩ => ⟨O', ⟨h1, rfl⟩, h2⟩)).mono ?_
  rintro e w' ⟨_, ⟨hr, rfl⟩, h2, h3⟩
  exact ⟨hr, h2, h3⟩
/-- A block that is known is written. -/
theorem Objs.wrote (h : Objs W os w) (i : Nat) {b : Nat} {t : TypeId} {cs cs' : Array Value} (hi : os[i]? = some (blkO b t cs)) (hb : Blk w' b t cs') (k : Keeps (fun x => x = b) w w') : Objs W (os.set i (blkO b t cs')) w' ∧ Below W.heap.size w w' := by
  obtain ⟨Fs, h1, h2, h3, h4⟩ := h.ex
  obtain ⟨F, hF⟩ := get_len h1 hi
  have hat := h2 i _ F hi hF
  exact h.turned i (F' := F) h1 h2 h3 h4 hF ⟨hb, hat.2⟩ (fun b hb => .inl hb) (k.mono fun x e => (hat.2 x).2 e)
theorem Objs.set_ (h : Objs W os w) (i : Nat) {b : Nat} {t : TypeId} {cs : Array Value} (hi : os[i]? = some (blkO b t cs)) (j : Nat) (u : Value) : Objs W (os.set i (blkO b t (cs.setIfInBounds j u))) (w.setCell ⟨b, j, none⟩ u) :=
  (h.wrote i hi ((h.blk i hi).set_ j u) ((Keeps.refl (fun x => x = b) w).setCell (p := ⟨b, j, none⟩) (.inl rfl) u)).1
theorem Objs.row (h : Objs W os w) (i : Nat) {b : Nat} {t : TypeId} {cs : Array Value} (hi : os[i]? = some (blkO b t cs)) (cs' : Array Value) : Objs W (os.set i (blkO b t cs')) (w.setRow b cs') :=
  (h.wrote i hi ((h.blk i hi).setRow cs') ((Keeps.refl (fun x => x = b) w).setRow (.inl rfl) cs')).1
theorem Objs.same {os' : List Obj} (h : Objs W os w) (h' : Objs W os' w') (i j : Nat) {b : Nat} {t : TypeId} {cs : Array Value} (hi : os[i]? = some (blkO b t cs)) (hj : os'[j]? = some (blkO b t cs)) : w'.heap[b]? = w.heap[b]? := (h'.blk j hj).trans (h.blk i hi).symm
end
end Go.Proofs.YtophcgbddccpeaaGreat
