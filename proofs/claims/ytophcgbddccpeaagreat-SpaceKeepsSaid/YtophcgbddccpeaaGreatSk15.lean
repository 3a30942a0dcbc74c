/- Merged texts: ObjB, MmuA, MmuC, MmuD, MmuE. -/
import Derived.Test.YtophcgbddccpeaaGreatSk14
import Derived.Test.YtophcgbddccpeaaGreatObjs
import Derived.Test.YtophcgbddccpeaaGreatPlan
import Derived.Test.YtophcgbddccpeaaGreatPlanT
import Derived.Test.YtophcgbddccpeaaGreatPlanI
/- Objects: two as one, rows, maps from numbers to numbers. -/
namespace Go.Proofs.YtophcgbddccpeaaGreat
open Go.RowKit Go.Maps

/-- Two objects as one. -/
def pairO (A B : Obj) : Obj where
  At w F := ∃ Fa Fb, A.At w Fa ∧ B.At w Fb ∧ (∀ b, Fa b → ¬ Fb b) ∧ ∀ b, F b ↔ Fa b ∨ Fb b
  keeps := fun ⟨Fa, Fb, ha, hb, hd, hF⟩ k hn => ⟨Fa, Fb, A.keeps ha k (fun b h => hn b ((hF b).2 (.inl h))), B.keeps hb k (fun b h => hn b ((hF b).2 (.inr h))), hd, hF⟩
  lt := fun ⟨_, _, ha, hb, _, hF⟩ h => ((hF _).1 h).elim (A.lt ha) (B.lt hb)
section
variable {W w w' : World} {os : List Obj} {A A' B : Obj}
theorem Objs.join (h : Objs W (A :: B :: os) w) : Objs W (pairO A B :: os) w := by
  obtain ⟨Fs, h1, h2, h3, h4⟩ := h.ex
  match Fs, h1, h2, h3, h4 with
  | Fa :: Fb :: Fs, h1, h2, h3, h4 =>
    have ha := h2 0 A Fa rfl rfl
    have hb := h2 1 B Fb rfl rfl
    have hd := h3 0 1 Fa Fb rfl rfl (by decide)
    refine ⟨⟨(fun b => Fa b ∨ Fb b) :: Fs, by simpa using h1, fun i O F ho hf => ?_, fun i j F G hf hg hij b hb1 hb2 => ?_, fun i F hf b hb1 => ?_⟩, h.bel⟩
    · cases i with
      | zero =>
        simp only [List.getElem?_cons_zero, Option.some.injEq] at ho hf
        subst ho; subst hf
        exact ⟨Fa, Fb, ha, hb, hd, fun b => Iff.rfl⟩
      | succ i => exact h2 (i + 2) O F ho hf
    · cases i with
      | zero =>
        simp only [List.getElem?_cons_zero, Option.some.injEq] at hf
        subst hf
        cases j with
        | zero => exact hij rfl
        | succ j =>
          rcases hb1 with hb1 | hb1
          · exact h3 0 (j + 2) Fa G rfl hg (by omega) b hb1 hb2
          · exact h3 1 (j + 2) Fb G rfl hg (by omega) b hb1 hb2
      | succ i =>
        cases j with
        | zero =>
          simp only [List.getElem?_cons_zero, Option.some.injEq] at hg
          subst hg
          rcases hb2 with hb2 | hb2
          · exact h3 (i + 2) 0 F Fa hf rfl (by omega) b hb1 hb2
          · exact h3 (i + 2) 1 F Fb hf rfl (by omega) b hb1 hb2
        | succ j => exact h3 (i + 2) (j + 2) F G hf hg (by omega) b hb1 hb2
    · cases i with
      | zero =>
        simp only [List.getElem?_cons_zero, Option.some.injEq] at hf
        subst hf
        rcases hb1 with hb1 | hb1
        · exact h4 0 Fa rfl b hb1
        · exact h4 1 Fb rfl b hb1
      | succ i => exact h4 (i + 2) F hf b hb1
  | [_], h1, _, _, _ => simp at h1
  | [], h1, _, _, _ => simp at h1
theorem Objs.split (h : Objs W (pairO A B :: os) w) : Objs W (A :: B :: os) w := by
  obtain ⟨Fs, h1, h2, h3, h4⟩ := h.ex
  match Fs, h1, h2, h3, h4 with
  | F0 :: Fs, h1, h2, h3, h4 =>
    obtain ⟨Fa, Fb, ha, hb, hd, hF⟩ := h2 0 _ F0 rfl rfl
    refine ⟨⟨Fa :: Fb :: Fs, by simpa using h1, fun i O F ho hf => ?_, fun i j F G hf hg hij b hb1 hb2 => ?_, fun i F hf b hb1 => ?_⟩, h.bel⟩
    · match i, ho, hf with
      | 0, ho, hf =>
        simp only [List.getElem?_cons_zero, Option.some.injEq] at ho hf
        subst ho; subst hf; exact ha
      | 1, ho, hf =>
        simp only [List.getElem?_cons_succ, List.getElem?_cons_zero, Option.some.injEq] at ho hf
        subst ho; subst hf; exact hb
      | i + 2, ho, hf => exact h2 (i + 1) O F ho hf
    · have side : ∀ (i : Nat) (F : Nat → Prop), (Fa :: Fb :: Fs)[i]? = some F → (i = 0 ∧ F = Fa) ∨ (i = 1 ∧ F = Fb) ∨ (2 ≤ i ∧ Fs[i - 2]? = some F) := fun i F hf => by
        match i, hf with
        | 0, hf => simp only [List.getElem?_cons_zero, Option.some.injEq] at hf; exact .inl ⟨rfl, hf.symm⟩
        | 1, hf => simp only [List.getElem?_cons_succ, List.getElem?_cons_zero, Option.some.injEq] at hf; exact .inr (.inl ⟨rfl, hf.symm⟩)
        | i + 2, hf => exact .inr (.inr ⟨by omega, hf⟩)
      have h3' : ∀ (j : Nat) (G : Nat → Prop), Fs[j]? = some G → ∀ b, Fa b ∨ Fb b → ¬ G b := fun j G hg b hb1 => h3 0 (j + 1) F0 G rfl hg (by omega) b ((hF b).2 hb1)
      rcases side i F hf with ⟨rfl, rfl⟩ | ⟨rfl, rfl⟩ | ⟨hi, hf'⟩
      · rcases side j G hg with ⟨rfl, rfl⟩ | ⟨rfl, rfl⟩ | ⟨hj, hg'⟩
        · exact hij rfl
        · exact hd b hb1 hb2
        · exact h3' _ G hg' b (.inl hb1) hb2
      · rcases side j G hg with ⟨rfl, rfl⟩ | ⟨rfl, rfl⟩ | ⟨hj, hg'⟩
        · exact hd b hb2 hb1
        · exact hij rfl
        · exact h3' _ G hg' b (.inr hb1) hb2
      · rcases side j G hg with ⟨rfl, rfl⟩ | ⟨rfl, rfl⟩ | ⟨hj, hg'⟩
        · exact h3' _ F hf' b (.inl hb2) hb1
        · exact h3' _ F hf' b (.inr hb2) hb1
        · exact h3 (i - 2 + 1) (j - 2 + 1) F G hf' hg' (by omega) b hb1 hb2
    · match i, hf with
      | 0, hf => simp only [List.getElem?_cons_zero, Option.some.injEq] at hf; subst hf; exact h4 0 F0 rfl b ((hF b).2 (.inl hb1))
      | 1, hf => simp only [List.getElem?_cons_succ, List.getElem?_cons_zero, Option.some.injEq] at hf; subst hf; exact h4 0 F0 rfl b ((hF b).2 (.inr hb1))
      | i + 2, hf => exact h4 (i + 1) F hf b hb1
  | [], h1, _, _, _ => simp at h1
/-- The first object, seen otherwise. -/
theorem Objs.conv (hc : ∀ F, A.At w F → A'.At w F) (h : Objs W (A :: os) w) : Objs W (A' :: os) w := by
  obtain ⟨Fs, h1, h2, h3, h4⟩ := h.ex
  refine ⟨⟨Fs, h1, fun i O F ho hf => ?_, h3, h4⟩, h.bel⟩
  cases i with
  | zero =>
    simp only [List.getElem?_cons_zero, Option.some.injEq] at ho
    subst ho
    exact hc F (h2 0 A F rfl hf)
  | succ i => exact h2 (i + 1) O F ho hf
end
/-- A row that grows. -/
def rowO (base : Nat) (e : TypeId) (size n : Nat) (v : Value) (xs : List Value) : Obj where
  At w F := w.ownsRow base e size v n xs ∧ ∀ b, F b ↔ v.ownBlock = some b
  keeps := fun ⟨h1, h2⟩ k hd => ⟨k.row h1 (fun g hg => hd g ((h2 g).2 hg)), h2⟩
  lt := fun ⟨h1, h2⟩ hb => (h1.lt _ ((h2 _).1 hb)).2
section
variable {W w w' : World} {os : List Obj} {base size n n' : Nat} {e : TypeId} {v v' : Value} {xs xs' : List Value}
theorem Objs.row0 (h : Objs W os w) (base : Nat) (e : TypeId) (size : Nat) : Objs W (rowO base e size 0 (.slice none 0 0) [] :: os) w :=
  h.add (F := fun _ => False) (Below.refl _ _) ⟨World.ownsRow_nil _ _ _ _, fun b => by simp [Value.ownBlock]⟩ (fun b hb => hb.elim)
theorem Objs.owns (h : Objs W os w) (i : Nat) (hi : os[i]? = some (rowO base e size n v xs)) : w.ownsRow base e size v n xs := by
  obtain ⟨F, h1, _⟩ := h.get i _ hi
  exact h1
theorem Objs.grow (h : Objs W os w) (i : Nat) (hi : os[i]? = some (rowO base e size n v xs)) (ho : w'.ownsRow base e size v' n' xs') (hg : w.grownBy w' v.ownBlock) (hat : v'.ownBlock = v.ownBlock ∨ v'.ownBlock = some w.heap.size) :
    Objs W (os.set i (rowO base e size n' v' xs')) w' := by
  obtain ⟨Fs, h1, h2, h3, h4⟩ := h.ex
  obtain ⟨F, hF⟩ := get_len h1 hi
  have hA := h2 i _ F hi hF
  refine (h.turned i (O' := rowO base e size n' v' xs') (F := F) (F' := fun b => v'.ownBlock = some b) h1 h2 h3 h4 hF ⟨ho, fun b => Iff.rfl⟩ (fun b hb => ?_) ⟨hg.os, hg.tape, hg.output, hg.size, fun j hj hne => hg.block j hj (fun e => hne ((hA.2 j).2 e.symm))⟩).1
  rcases hat with e | e
  · exact .inl ((hA.2 b).2 (by rw [← e]; exact hb))
  · rw [e] at hb
    injection hb with hb
    exact .inr (Nat.le_of_eq hb)
end
theorem row_form {w : World} {base s n : Nat} {e : TypeId} {v : Value} {xs : List Value} (h : w.ownsRow base e s v n xs) : ∃ A c, v = .slice A n c := by
  rcases h.2 with ⟨rfl, rfl⟩ | ⟨g, cap, _, rfl, _⟩
  · exact ⟨_, _, rfl⟩
  · exact ⟨_, _, rfl⟩
/-- Block b is a map of n numbers, each with a number: f. -/
def IMap (et : TypeId) (w : World) (b n : Nat) (f : Nat → Option Int) : Prop := ∃ D : DataW Unit, w.ownsMap Tryz.prog 3 (plainElem Tryz.prog et) b n D ∧ Maps.size D = n ∧
  ∀ k : Nat, (Lit.int .i64 (k : Int)).wf = true → D.atKey (.int .i64 (k : Int)) (.lit (.int .i64 0)) = .lit (.int .i64 ((f k).getD 0)) ∧ Maps.has D (.int .i64 (k : Int)) = (f k).isSome
section
variable {et mt : TypeId} {w w' : World} {b n : Nat} {f : Nat → Option Int}
theorem IMap.lt (h : IMap et w b n f) : b < w.heap.size := by
  obtain ⟨D, h, _⟩ := h; exact h.lt
theorem IMap.keeps {F : Nat → Prop} (h : IMap et w b n f) (hg : Keeps F w w') (hne : ¬ F b) : IMap et w' b n f := by
  obtain ⟨D, h, r⟩ := h; exact ⟨D, hg.map h hne, r⟩
theorem IMap.new (et : TypeId) (w : World) : IMap et (w.alloc (.map #[] 0)) w.heap.size 0 (fun _ => none) :=
  ⟨.map [], World.ownsMap_made _ _ _ _, rfl, fun f _ => ⟨by simp [DataW.atKey], by simp [Maps.has]⟩⟩
theorem elemN_inv (he : Tryz.prog.underlying et = some (.int .i64)) {v : Value} {y : Int} {ps : List MemPlace} (h : plainElem (H := Unit) Tryz.prog et v = some (.lit (.int .i64 y), ps)) : v = .int .i64 y := by
  obtain ⟨a, rfl, e, _⟩ := plainElem_int_inv he h
  have e1 := congrArg Prod.fst e
  simp only [DataW.lit.injEq, Lit.int.injEq, true_and] at e1
  rw [e1]
theorem IMap.look (h : IMap et w b n f) (he : Tryz.prog.underlying et = some (.int .i64)) (hm : Tryz.prog.underlying mt = some (.map 3 et)) (hz : (zeroValue et).run Tryz.prog w = .ok (.int .i64 0) w) {k : Nat} (hk : (Lit.int .i64 (k : Int)).wf = true) :
    (Instr.lookup mt (.map (some b)) (.int .i64 (k : Int)) false).run Tryz.prog w = .ok (.int .i64 ((f k).getD 0)) w := by
  obtain ⟨D, h, _, hD⟩ := h
  obtain ⟨v, ps, hrun, hv⟩ := h.lookup law hm hz (plainElem_int he (by decide)) (keyI hk)
  rw [(hD k hk).1] at hv
  rw [hrun, elemN_inv he hv]
theorem IMap.look2 (h : IMap et w b n f) (he : Tryz.prog.underlying et = some (.int .i64)) (hm : Tryz.prog.underlying mt = some (.map 3 et)) (hz : (zeroValue et).run Tryz.prog w = .ok (.int .i64 0) w) {k : Nat} (hk : (Lit.int .i64 (k : Int)).wf = true) :
    (Instr.lookup mt (.map (some b)) (.int .i64 (k : Int)) true).run Tryz.prog w = .ok (.tuple #[.int .i64 ((f k).getD 0), .bool (f k).isSome]) w := by
  obtain ⟨D, h, _, hD⟩ := h
  obtain ⟨v, ps, hrun, hv⟩ := h.look_ok law hm hz (plainElem_int he (by decide)) (keyI hk)
  rw [(hD k hk).1] at hv
  rw [hrun, elemN_inv he hv, (hD k hk).2]
theorem IMap.len (h : IMap et w b n f) (hm : Tryz.prog.underlying mt = some (.map 3 et)) (ty : TypeId) :
    (Builtin.len_ #[mt] ty #[.map (some b)]).run Tryz.prog w = .ok (.int .i64 (n : Int)) w := by
  obtain ⟨D, h, hs, _⟩ := h
  have := h.len (ty := ty) hm
  rw [hs] at this
  exact this
theorem ownsMap_sizeN {D : DataW Unit} (h : w.ownsMap Tryz.prog 3 (plainElem Tryz.prog et) b n D) : w.ownsMap Tryz.prog 3 (plainElem Tryz.prog et) b (Maps.size D) D := by
  obtain ⟨es, clock, hb, F, hs, rfl⟩ := h
  exact ⟨es, clock, hb, F, by simp [Maps.size, length_sorted], rfl⟩
def putF (f : Nat → Option Int) (k : Nat) (x : Int) : Nat → Option Int := fun j => if j = k then some x else f j
theorem IMap.put (h : IMap et w b n f) (he : Tryz.prog.underlying et = some (.int .i64)) (hm : Tryz.prog.underlying mt = some (.map 3 et)) {k : Nat} {x : Int} (hk : (Lit.int .i64 (k : Int)).wf = true) (hx : (Lit.int .i64 x).wf = true) (hn : n < maxLen) :
    ∃ w', (Instr.mapUpdate mt (.map (some b)) (.int .i64 (k : Int)) (.int .i64 x)).run Tryz.prog w = .ok () w' ∧ IMap et w' b (if (f k).isSome then n else n + 1) (putF f k x) ∧ w.grownBy w' (some b) := by
  obtain ⟨D, h, hs, hD⟩ := h
  obtain ⟨w', hrun, h', hg⟩ := h.update law hm hn (keyI hk) (plainElem_int he hx)
  have hsz : Maps.size (D.put (.int .i64 (k : Int)) (.lit (.int .i64 x))) = if (f k).isSome then n else n + 1 := by
    rw [Maps.size_put (h.tidy law), (hD k hk).2, hs]
  refine ⟨w', hrun, ⟨_, by rw [← hsz]; exact ownsMap_sizeN h', hsz, fun g hg' => ?_⟩, hg⟩
  unfold putF
  by_cases e : g = k
  · subst e
    rw [Maps.atKey_put_same h.isMap (isKeyI _), Maps.has_put_same h.isMap (isKeyI _)]
    simp
  · have hne : (Lit.int .i64 (g : Int)) ≠ .int .i64 (k : Int) := by intro h; injection h with _ h; exact e (by omega)
    rw [Maps.atKey_put_other hne, Maps.has_put_other hne, (hD g hg').1, (hD g hg').2]
    simp [e]
end
/-- A map of numbers, as an object. -/
def mapO (et : TypeId) (b n : Nat) (f : Nat → Option Int) : Obj where
  At w F := IMap et w b n f ∧ ∀ x, F x ↔ x = b
  keeps := fun ⟨h1, h2⟩ k hd => ⟨h1.keeps k (hd _ ((h2 _).2 rfl)), h2⟩
  lt := fun ⟨h1, h2⟩ hb => by rw [(h2 _).1 hb]; exact h1.lt
section
variable {W w w' : World} {os : List Obj} {et : TypeId} {b n n' : Nat} {f f' : Nat → Option Int}
theorem Objs.imap (h : Objs W os w) (i : Nat) (hi : os[i]? = some (mapO et b n f)) : IMap et w b n f := by
  obtain ⟨F, h1, _⟩ := h.get i _ hi
  exact h1
theorem Objs.mapped (h : Objs W os w) (i : Nat) (hi : os[i]? = some (mapO et b n f)) (hm : IMap et w' b n' f') (hg : w.grownBy w' (some b)) : Objs W (os.set i (mapO et b n' f')) w' ∧ Below W.heap.size w w' := by
  obtain ⟨Fs, h1, h2, h3, h4⟩ := h.ex
  obtain ⟨F, hF⟩ := get_len h1 hi
  have hA := h2 i _ F hi hF
  exact h.turned i (O' := mapO et b n' f') (F := F) (F' := F) h1 h2 h3 h4 hF ⟨hm, hA.2⟩ (fun b hb => .inl hb) ⟨hg.os, hg.tape, hg.output, hg.size, fun j hj hne => hg.block j hj (fun e => hne ((hA.2 j).2 (by cases e; rfl)))⟩
theorem Objs.pushMap (h : Objs W os w) (et : TypeId) : Objs W (mapO et w.heap.size 0 (fun _ => none) :: os) (w.alloc (.map #[] 0)) :=
  h.add (F := fun x => x = w.heap.size) ((Below.refl _ _).alloc (Nat.le_refl _) _) ⟨IMap.new et w, fun _ => Iff.rfl⟩ (fun b e => by rw [e]; exact Nat.le_refl _)
end
section
variable {ops : Array Oper} {rest : List Oper} {o : Oper} {a : Act} {Q : Exit → Act → World → Prop}
theorem wpList_iput (w : World) (hg : o.guard = none) (m x v : Operand) (mt et : TypeId) (hop : o.op = Op.mapUpdate mt m x v) (he : Tryz.prog.underlying et = some (.int .i64)) (hmt : Tryz.prog.underlying mt = some (.map 3 et)) (b n : Nat) (f : Nat → Option Int) (k : Nat) (y : Int)
    (hm : a.eval m = .map (some b)) (hx : a.eval x = .int .i64 (k : Int)) (hv : a.eval v = .int .i64 y) (h : IMap et w b n f) (hk : (Lit.int .i64 (k : Int)).wf = true) (hy : (Lit.int .i64 y).wf = true) (hmax : n < maxLen)
    (hK : ∀ w', IMap et w' b (if (f k).isSome then n else n + 1) (putF f k y) → w.grownBy w' (some b) → wpList Tryz.prog ops Q rest (a.put o.dst undef) w') : wpList Tryz.prog ops Q (o :: rest) a w := by
  refine wpList_plain hg fun K' hK' => ?_
  obtain ⟨w', hrun, r1, r2⟩ := h.put he hmt hk hy hmax
  unfold Oper.wp
  simp [execOp, hop, hm, hx, hv, hrun, Result.andThen]
  exact hK' _ _ (hK w' r1 r2)
end
end Go.Proofs.YtophcgbddccpeaaGreat

/- The memory as an object; its calls. -/
namespace Go.Proofs.YtophcgbddccpeaaGreat
open Go.RowKit

theorem Mem.fits {w : World} {g n : Nat} {F : Nat → Prop} {S : Nat → List Nat} (h : Mem w g F n S) : ∃ F', Mem w g F' n S ∧ (∀ b, F' b → F b) ∧ ∀ b, F' b → b < w.heap.size := by
  obtain ⟨mb, loc, K, h1, h2⟩ := h
  exact ⟨memF g mb loc K, ⟨mb, loc, K, h1, fun _ h => h⟩, h2, fun b hb => h1.flt b hb⟩
/-- A memory of n frames that holds the pages S. -/
def memO (g n : Nat) (S : Nat → List Nat) : Obj where
  At w F := Mem w g F n S ∧ ∀ b, F b → b < w.heap.size
  keeps := fun h k hd => ⟨h.1.keeps k hd, fun b hb => Nat.lt_of_lt_of_le (h.2 b hb) k.size⟩
  lt := fun h hb => h.2 _ hb
section
variable {W w : World} {os : List Obj} {g n : Nat} {S : Nat → List Nat}
theorem Objs.memStore (h : Objs W os w) (i : Nat) (hi : os[i]? = some (memO g n S)) (at_ : Nat) (s : Int) (v : Nat) (ha : at_ < 18446744073709551616) (hv : v < 18446744073709551616) :
    Calls Tryz.prog 34 #[.pointer (some ⟨g, 0, none⟩), .int .u64 (at_ : Int), .int .i64 s, .int .u64 (v : Int)] w fun e w' => e = .returned (.int .i64 (chkE n at_ s)) ∧ Objs W (os.set i (memO g n (stR n S at_ s v))) w' ∧ Below W.heap.size w w' := by
  have t := h.turn (P := Tryz.prog) (f := 34) (args := #[.pointer (some ⟨g, 0, none⟩), .int .u64 (at_ : Int), .int .i64 s, .int .u64 (v : Int)]) (R := fun e => e = .returned (.int .i64 (chkE n at_ s))) i (memO g n S) (memO g n (stR n S at_ s v)) hi (fun F hF => by
    refine (Store_any g n at_ s v F S w hF.1 ha hv).mono ?_
    rintro e w' ⟨rfl, F', h1, h2, h3⟩
    refine ⟨rfl, ?_⟩
    obtain ⟨F2, k1, k2, k3⟩ := h1.fits
    exact ⟨F2, ⟨k1, k3⟩, fun b hb => h2 b (k2 b hb), h3⟩)
  exact t
theorem Objs.memLoad (h : Objs W os w) (i : Nat) (hi : os[i]? = some (memO g n S)) (at_ : Nat) (s : Int) (ha : at_ < 18446744073709551616) :
    Calls Tryz.prog 61 #[.pointer (some ⟨g, 0, none⟩), .int .u64 (at_ : Int), .int .i64 s] w fun e w' => e = .returned (.tuple #[.int .u64 (ldR n S at_ s : Nat), .int .i64 (chkE n at_ s)]) ∧ w = w' := by
  obtain ⟨F, hF⟩ := h.get i _ hi
  exact Load_any g n at_ s F S w hF.1 ha
theorem Objs.memFrames (h : Objs W os w) (i : Nat) (hi : os[i]? = some (memO g n S)) :
    Calls Tryz.prog 56 #[.pointer (some ⟨g, 0, none⟩)] w fun e w' => e = .returned (.int .i64 (n : Int)) ∧ w = w' := by
  obtain ⟨F, hF⟩ := h.get i _ hi
  exact frames_any g F n S w hF.1
theorem Objs.memFind (h : Objs W os w) (i : Nat) (hi : os[i]? = some (memO g n S)) (va ppn : Nat) (asid : Int) (on : Bool) (hv : va < 18446744073709551616) (hp : ppn < 18446744073709551616) :
    Calls Tryz.prog 78 #[.pointer (some ⟨g, 0, none⟩), .agg #[.bool on, .int .i64 asid, .int .u64 (ppn : Int)], .int .u64 (va : Int)] w fun e w' =>
      e = .returned (.tuple #[fdV (findW n S on ppn va), .int .i64 (fdE (findW n S on ppn va))]) ∧ Objs W os w' ∧ Ext w w' := by
  obtain ⟨F, hF⟩ := h.get i _ hi
  refine (Find_any g n va ppn asid on F S w hF.1 hv hp).mono ?_
  rintro e w' ⟨rfl, hb⟩
  exact ⟨rfl, h.step hb, hb⟩
end
end Go.Proofs.YtophcgbddccpeaaGreat

/- Both buffers as objects; their calls. -/
namespace Go.Proofs.YtophcgbddccpeaaGreat
open Go.RowKit

/-- A buffer's entries are right. -/
def TG (T : List (List En)) (n m : Nat) : Prop := TOk T n m ∧ WfT T
/-- A buffer of n sets of m ways that holds T. -/
def bufO (g n m : Nat) (T : List (List En)) : Obj where
  At w F := TG T n m ∧ (∃ gs G, BufAt w g gs G T m ∧ ∀ b, bufF g gs G n b → F b) ∧ ∀ b, F b → b < w.heap.size
  keeps := fun ⟨h1, ⟨gs, G, h2, h3⟩, h4⟩ k hd => ⟨h1, ⟨gs, G, h2.move (fun b hb hf => k.block b hb (hd b (h3 b (by rw [← h1.1.len]; exact hf)))), h3⟩, fun b hb => Nat.lt_of_lt_of_le (h4 b hb) k.size⟩
  lt := fun h hb => h.2.2 _ hb
/-- What a fill makes of a buffer. -/
def fillB (T : List (List En)) (va : Nat) (asid : Int) (lf : Tf) (pick : Int) : List (List En) := if levOK lf.lev then fillS T va asid lf pick else T
theorem TOk.fillB {T : List (List En)} {n m va : Nat} {asid pick : Int} {lf : Tf} (h : TOk T n m) : TOk (fillB T va asid lf pick) n m := by
  unfold Proofs.YtophcgbddccpeaaGreat.fillB
  split
  · exact h.fill (by assumption)
  · exact h
theorem TG.fillB {T : List (List En)} {n m va : Nat} {asid pick : Int} {lf : Tf} (h : TG T n m) (hl : tlb_LfWf lf) (ha : (Lit.int .i64 asid).wf = true) : TG (fillB T va asid lf pick) n m := by
  refine ⟨h.1.fillB, ?_⟩
  unfold Proofs.YtophcgbddccpeaaGreat.fillB
  split
  · exact h.2.fill hl ha
  · exact h.2
section
variable {W w : World} {os : List Obj} {g n m : Nat} {T : List (List En)}
theorem Objs.bufFind (h : Objs W os w) (i : Nat) (hi : os[i]? = some (bufO g n m T)) (va : Nat) (asid : Int) (hv : va < 18446744073709551616) :
    Calls Tryz.prog 77 #[.pointer (some ⟨g, 0, none⟩), .int .u64 va, .int .i64 asid] w fun e w' => e = .returned (.tuple #[.agg ((findS T va asid).getD tlb_lf0).cs, .bool (findS T va asid).isSome]) ∧ Objs W os w' ∧ Ext w w' := by
  obtain ⟨F, hK, ⟨gs, G, hB, _⟩, _⟩ := h.get i _ hi
  refine (tlb_find_any g gs G T m va asid w hv (by rw [hK.1.len]; exact hK.1.n0) (by rw [hK.1.len]; exact hK.1.n64) hK.1.m8 hB hK.1.val).mono ?_
  rintro e w' ⟨rfl, hb⟩
  exact ⟨rfl, h.step hb, hb⟩
theorem Objs.bufFill (h : Objs W os w) (i : Nat) (hi : os[i]? = some (bufO g n m T)) (va : Nat) (asid : Int) (lf : Tf) (pick : Int) (hv : va < 18446744073709551616) (hp : -9223372036854775808 ≤ pick ∧ pick < 9223372036854775808) (hlf : tlb_LfWf lf) (has : (Lit.int .i64 asid).wf = true) :
    Calls Tryz.prog 79 #[.pointer (some ⟨g, 0, none⟩), .int .u64 va, .int .i64 asid, .agg lf.cs, .int .i64 pick] w fun e w' => e = .returned (.bool (levOK lf.lev)) ∧ Objs W (os.set i (bufO g n m (fillB T va asid lf pick))) w' ∧ Below W.heap.size w w' := by
  refine h.turn (R := fun e => e = .returned (.bool (levOK lf.lev))) i (bufO g n m T) (bufO g n m (fillB T va asid lf pick)) hi (fun F hF => ?_)
  obtain ⟨hK, ⟨gs, G, hB, hG⟩, hF⟩ := hF
  have hl := hK.1.len
  have key : Calls Tryz.prog 79 #[.pointer (some ⟨g, 0, none⟩), .int .u64 va, .int .i64 asid, .agg lf.cs, .int .i64 pick] w (FillR g gs G (fillB T va asid lf pick) n m (levOK lf.lev) w) := by
    unfold fillB
    cases hlev : levOK lf.lev with
    | true => rw [if_pos rfl, ← hl]; exact fill_yes g gs G T m va asid lf pick w hv hp (by rw [hl]; exact hK.1.n0) (by rw [hl]; exact hK.1.n64) hK.1.m0 hK.1.m8 hB hlev
    | false => rw [if_neg (by simp), ← hl]; exact fill_no g gs G T m va asid lf pick w hB hlev
  refine key.mono ?_
  rintro e w' ⟨rfl, h2, h3⟩
  exact ⟨rfl, F, ⟨hK.fillB hlf has, ⟨gs, G, h2, hG⟩, fun b hb => Nat.lt_of_lt_of_le (hF b hb) h3.size⟩, fun b hb => .inl hb, h3.mono hG⟩
theorem Objs.bufFence (h : Objs W os w) (i : Nat) (hi : os[i]? = some (bufO g n m T)) (vo : Option Nat) (ao : Option Int) (V A : Value) (hv : ∀ va, vo = some va → va < 18446744073709551616) (hV : OneU w vo V) (hA : OneI w ao A) :
    Calls Tryz.prog 49 #[.pointer (some ⟨g, 0, none⟩), V, A] w fun e w' => e = .returned (.int .i64 (fenceN T vo ao : Nat)) ∧ Objs W (os.set i (bufO g n m (fenceS T vo ao))) w' ∧ Below W.heap.size w w' := by
  refine h.turn (R := fun e => e = .returned (.int .i64 (fenceN T vo ao : Nat))) i (bufO g n m T) (bufO g n m (fenceS T vo ao)) hi (fun F hF => ?_)
  obtain ⟨hK, ⟨gs, G, hB, hG⟩, hF⟩ := hF
  have hl := hK.1.len
  refine (fence_any g gs G T m vo ao V A w hv (by rw [hl]; exact hK.1.n0) (by rw [hl]; exact hK.1.n64) hK.1.m0 hK.1.m8 hB hK.1.val hV hA).mono ?_
  rintro e w' ⟨rfl, h2, h3⟩
  rw [hl] at h3
  exact ⟨rfl, F, ⟨⟨hK.1.fence vo ao, hK.2.fence vo ao⟩, ⟨gs, G, h2, hG⟩, fun b hb => Nat.lt_of_lt_of_le (hF b hb) h3.size⟩, fun b hb => .inl hb, h3.mono hG⟩
theorem Objs.bufList (h : Objs W os w) (i : Nat) (hi : os[i]? = some (bufO g n m T)) :
    Calls Tryz.prog 63 #[.pointer (some ⟨g, 0, none⟩)] w fun e w' => ∃ A c, e = .returned (.slice A (listT 0 T).length c) ∧ RdS w' (.slice A (listT 0 T).length c) (listT 0 T) ∧ Objs W os w' ∧ Ext w w' := by
  obtain ⟨F, hK, ⟨gs, G, hB, _⟩, _⟩ := h.get i _ hi
  refine (list_any g gs G T m w (by rw [hK.1.len]; exact hK.1.n64) hK.1.m8 hB).mono ?_
  rintro e w1 ⟨v, rfl, h1, h2⟩
  obtain ⟨A, c, rfl⟩ := tlb_row_form h1
  exact ⟨A, c, rfl, RdS.of_own h1, h.step h2, h2⟩
theorem Objs.bufTG (h : Objs W os w) (i : Nat) (hi : os[i]? = some (bufO g n m T)) : TG T n m := by
  obtain ⟨F, hK, _⟩ := h.get i _ hi
  exact hK
end
end Go.Proofs.YtophcgbddccpeaaGreat

/- What a unit answers, in plain Lean. -/
namespace Go.Proofs.YtophcgbddccpeaaGreat
open Go.RowKit

/-- What is found through the tables, as a leaf of the buffer. -/
def fdT : Fd → Tf
  | .err _ => tlb_lf0
  | .leaf x l a => ⟨bitB x 0, bitB x 1, bitB x 2, bitB x 3, bitB x 4, bitB x 5, bitB x 6, bitB x 7, (x : Int) / 256 % 4, x / 1024 % 17592186044416, (l : Int), a⟩
theorem fdT_val (f : Fd) : (fdT f).val = fdV f := by
  cases f with
  | err e => rfl
  | leaf x l a =>
    show Value.agg _ = Value.agg _
    simp [fdT]
/-- What a unit holds beside its memory and its buffer. -/
structure Un where
  (on : Bool)
  (asid : Int)
  (ppn : Nat)
  (user sum mxr : Bool)
def Un.cs (u : Un) (m b : Nat) : Array Value := #[.pointer (some ⟨m, 0, none⟩), .pointer (some ⟨b, 0, none⟩), .bool u.on, .int .i64 u.asid, .int .u64 (u.ppn : Int), .bool u.user, .bool u.sum, .bool u.mxr]
/-- The leaf of an address, its cause (-1: none), what the buffer has then. -/
def leafM (n : Nat) (S : Nat → List Nat) (T : List (List En)) (u : Un) (va : Nat) (a pick : Int) : Tf × Int × List (List En) :=
  match findS T va u.asid with
  | some lf => (lf, -1, T)
  | none =>
    if fdE (findW n S u.on u.ppn va) = 0 then (fdT (findW n S u.on u.ppn va), -1, fillB T va u.asid (fdT (findW n S u.on u.ppn va)) pick)
    else (fdT (findW n S u.on u.ppn va), if fdE (findW n S u.on u.ppn va) = 61 then causeV a 1 5 7 else causeV a 12 13 15, T)
/-- The place of an access in memory, its cause, what the buffer has then. -/
def placeM (n : Nat) (S : Nat → List Nat) (T : List (List En)) (u : Un) (va : Nat) (size a pick : Int) : Nat × Int × List (List En) :=
  if alignedB va size then
    if (leafM n S T u va a pick).2.1 = -1 then
      if checkB (leafM n S T u va a pick).1.v (leafM n S T u va a pick).1.r (leafM n S T u va a pick).1.w (leafM n S T u va a pick).1.x (leafM n S T u va a pick).1.u (leafM n S T u va a pick).1.a (leafM n S T u va a pick).1.d a u.user u.sum u.mxr then
        if joinV (leafM n S T u va a pick).1.ppn va (leafM n S T u va a pick).1.lev / 4096 < n then (joinV (leafM n S T u va a pick).1.ppn va (leafM n S T u va a pick).1.lev, -1, (leafM n S T u va a pick).2.2)
        else (0, causeV a 1 5 7, (leafM n S T u va a pick).2.2)
      else (0, causeV a 12 13 15, (leafM n S T u va a pick).2.2)
    else (0, (leafM n S T u va a pick).2.1, (leafM n S T u va a pick).2.2)
  else (0, causeV a 0 4 6, T)
theorem TOk.leafM {T : List (List En)} {k m n va : Nat} {S : Nat → List Nat} {u : Un} {a pick : Int} (h : TOk T k m) : TOk (leafM n S T u va a pick).2.2 k m := by
  unfold Proofs.YtophcgbddccpeaaGreat.leafM
  split
  · exact h
  · split
    · exact h.fillB
    · exact h
theorem TOk.placeM {T : List (List En)} {k m n va : Nat} {S : Nat → List Nat} {u : Un} {size a pick : Int} (h : TOk T k m) : TOk (placeM n S T u va size a pick).2.2 k m := by
  unfold Proofs.YtophcgbddccpeaaGreat.placeM
  split
  · split
    · split
      · split <;> exact h.leafM
      · exact h.leafM
    · exact h.leafM
  · exact h
/-- A place that is joined is aligned as the address is. -/
theorem joinV_al (ppn va : Nat) (lev s : Int) (h : alignedB va s = true) : alignedB (joinV ppn va lev) s = true := by
  unfold alignedB at h ⊢
  rw [Bool.and_eq_true] at h
  obtain ⟨hs, h⟩ := h
  rw [hs, Bool.true_and]
  have h : va % s.toNat = 0 := by simpa using h
  suffices joinV ppn va lev % s.toNat = 0 by simp [this]
  unfold joinV
  cases hl : levelB lev with
  | false => simp
  | true =>
    rw [if_pos rfl]
    generalize ppn * 4096 % 18446744073709551616 = p
    rcases level_cases hl with rfl | rfl | rfl
    · rw [show spanV 0 = 4096 by decide]
      rcases size_cases hs with rfl | rfl | rfl | rfl <;> simp only [Int.reduceToNat] at h ⊢ <;> omega
    · rw [show spanV 1 = 2097152 by decide]
      rcases size_cases hs with rfl | rfl | rfl | rfl <;> simp only [Int.reduceToNat] at h ⊢ <;> omega
    · rw [show spanV 2 = 1073741824 by decide]
      rcases size_cases hs with rfl | rfl | rfl | rfl <;> simp only [Int.reduceToNat] at h ⊢ <;> omega
theorem chk_al {n at_ : Nat} {s : Int} (h : alignedB at_ s = true) : chkE n at_ s = if at_ / 4096 < n then 0 else 61 := by
  have hs : sizeB s = true := by unfold alignedB at h; rw [Bool.and_eq_true] at h; exact h.1
  unfold chkE
  rw [if_neg (by rw [hs]; decide), if_neg (by rw [h]; decide)]
  by_cases hx : at_ / 4096 < n
  · rw [if_pos hx, if_neg (by omega)]
  · rw [if_neg hx, if_pos (by omega)]
end Go.Proofs.YtophcgbddccpeaaGreat

/- The leaf of an address. -/
namespace Go.Proofs.YtophcgbddccpeaaGreat
open Go.RowKit

/-- Ways that meet again. -/
theorem pt_join {P : Program} {ls : List Oper} {Q : Exit → Act → World → Prop} {R : World → World → Prop} {ds : List (Nat × Option Tmp)} (S : (Nat → Value) → World → Prop) (t2 : PT) {a : Act} {w : World} {t : PT} {k : Nat} {L : Array Bool} (hs : Region.noSelect ls.toArray = true) (hR : Later R)
    (hQ : ∀ c d v a w, Q (.panic c) (a.put d v) w → Q (.panic c) a w) (hk : t2.depth = k) (hok : (ptOK .any ls.toArray t2 L && closedB .any ls.toArray L) = true)
    (hend : ∀ x w', S x w' → wpPT R P ls.toArray Q t2 (fill a x ds) w') (h : (∀ x w', S x w' → wpPT R P ls.toArray Q (.rest k L) (fill a x ds) w') → wpPT R P ls.toArray Q t a w) : wpPT R P ls.toArray Q t a w :=
  h fun x w' hS n hn => anyE_of_pt hR hs hQ t2 n L _ _ (closedB_spec (Bool.and_eq_true _ _ ▸ hok).2) (by omega) (Bool.and_eq_true _ _ ▸ hok).1 (hend x w' hS)
theorem Objs.ne {W w : World} {os : List Obj} (h : Objs W os w) (i j : Nat) {b b' : Nat} {t t' : TypeId} {cs cs' : Array Value} (hi : os[i]? = some (blkO b t cs)) (hj : os[j]? = some (blkO b' t' cs')) (hij : i ≠ j) : b ≠ b' := by
  obtain ⟨Fs, h1, h2, h3, h4⟩ := h.ex
  obtain ⟨F, hF⟩ := get_len h1 hi
  obtain ⟨G, hG⟩ := get_len h1 hj
  rintro rfl
  exact h3 i j F G hF hG hij b (((h2 i _ F hi hF).2 b).2 rfl) (((h2 j _ G hj hG).2 b).2 rfl)
theorem fdV_T (f : Fd) : fdV f = .agg (fdT f).cs := (fdT_val f).symm
theorem findF_lev {n : Nat} {S : Nat → List Nat} {va x l a : Nat} : ∀ (L t : Nat), L ≤ 2 → findF n S va L t = .leaf x l a → l ≤ 2 ∧ a < 18446744073709551616
  | 0, t, hL, h => by
    rcases fdAt_leaf h with ⟨rfl, rfl, _⟩ | h
    · exact ⟨hL, atX_lt _ _ _⟩
    · cases h
  | L + 1, t, hL, h => by
    rcases fdAt_leaf h with ⟨rfl, rfl, _⟩ | h
    · exact ⟨hL, atX_lt _ _ _⟩
    · exact findF_lev L _ (by omega) h
theorem fdT_wf (n : Nat) (S : Nat → List Nat) (on : Bool) (ppn va : Nat) : tlb_LfWf (fdT (findW n S on ppn va)) := by
  cases h : findW n S on ppn va with
  | err e =>
    show tlb_LfWf tlb_lf0
    unfold tlb_LfWf; decide
  | leaf x l a =>
    have hl : l ≤ 2 ∧ a < 18446744073709551616 := by
      unfold findW at h
      split at h
      · split at h
        · exact findF_lev 2 _ (by omega) h
        · cases h
      · cases h
    unfold tlb_LfWf fdT
    simp only
    exact ⟨wf64 (by omega) (by omega), wfu (by omega) (by omega), wf64 (by omega) (by omega), wfu (by omega) (by omega)⟩
section
variable {n k m va : Nat} {S : Nat → List Nat} {T : List (List En)} {u : Un} {a pick size : Int}
theorem TG.leafM (h : TG T k m) (ha : (Lit.int .i64 u.asid).wf = true) : TG (leafM n S T u va a pick).2.2 k m := by
  unfold Proofs.YtophcgbddccpeaaGreat.leafM
  split
  · exact h
  · split
    · exact h.fillB (fdT_wf _ _ _ _ _) ha
    · exact h
theorem leafM_wf (h : WfT T) : tlb_LfWf (leafM n S T u va a pick).1 := by
  unfold Proofs.YtophcgbddccpeaaGreat.leafM
  split
  · rename_i lf hf
    have := find_wf (va := va) (asid := u.asid) h
    rw [hf] at this
    exact this
  · split <;> exact fdT_wf _ _ _ _ _
end
section
variable {P : Program} {o : Oper} {a : Act} {w : World} {K : Act → World → Prop} {Q : Exit → Act → World → Prop}
theorem wo_row (ty : TypeId) (x y : Operand) (ho : o.op = .store ty x y) (g : Nat) (t : TypeId) (old cs : Array Value) (hx : a.eval x = .pointer (some ⟨g, 0, none⟩)) (hy : a.eval y = .agg cs)
    (hg : Blk w g t old) (hs : old.size = cs.size) (ht : rowT P ty cs.size = true) (h1 : cs.all (·.oneCell') = true) (h : K (a.put o.dst undef) (w.setRow g cs)) : o.wp P a w K Q := by
  obtain ⟨d, _, _, h3⟩ := rowT_spec ht
  exact wp_store_row ty x y ho g cs hx hy t old hg h3 hs h1 h
end
/-- These blocks are as they were. -/
def SameL (l : List Nat) (w w' : World) : Prop := ∀ b, b ∈ l → w'.heap[b]? = w.heap[b]?
theorem later_same (l : List Nat) : Later (SameL l) := ⟨fun _ _ _ => rfl, fun h k b hb => (k b hb).trans (h b hb)⟩
theorem SameL.cell {l : List Nat} {b i : Nat} {w w' : World} {v : Value} (h : SameL l w w') (hb : b ∈ l) (hc : w.cell? ⟨b, i, none⟩ = some v) : w'.cell? ⟨b, i, none⟩ = some v := by
  rw [World.cell?_of_block (a := ⟨b, i, none⟩) (h b hb)]; exact hc
theorem SameL.blk {l : List Nat} {b : Nat} {t : TypeId} {cs : Array Value} {w w' : World} (h : SameL l w w') (hb : b ∈ l) (hc : Blk w b t cs) : Blk w' b t cs := (h b hb).trans hc
theorem SameL.ext {l : List Nat} {w w' : World} (h : Ext w w') (hb : ∀ b, b ∈ l → b < w.heap.size) : SameL l w w' := fun b hm => h.block b (hb b hm)
theorem SameL.row {l : List Nat} {g : Nat} (w : World) (cs : Array Value) (h : ∀ b, b ∈ l → b ≠ g) : SameL l w (w.setRow g cs) := fun b hb => setRow_other w g b cs (h b hb)
theorem ext_alloc (w : World) (o : Go.Obj) : Ext w (w.alloc o) := (Ext.refl w).alloc (Nat.le_refl _) o
def xs5 (a b c d e : Value) : Nat → Value
  | 10 => a
  | 11 => b
  | 12 => c
  | 13 => d
  | 14 => e
  | _ => undef
theorem lf_range {W w : World} {os : List Obj} {g i : Nat} {l : Tf} (h : Objs W os w) (hi : os[i]? = some (blkO g 98 l.cs)) : w.rangeAt g 0 l.cs.toList := (h.blk i hi).range
theorem un_size (u : Un) (m b : Nat) : (u.cs m b).size = 8 := rfl
theorem un0 (u : Un) (m b : Nat) : (u.cs m b)[0]? = some (.pointer (some ⟨m, 0, none⟩)) := rfl
theorem un1 (u : Un) (m b : Nat) : (u.cs m b)[1]? = some (.pointer (some ⟨b, 0, none⟩)) := rfl
theorem un2 (u : Un) (m b : Nat) : (u.cs m b)[2]? = some (.bool u.on) := rfl
theorem un3 (u : Un) (m b : Nat) : (u.cs m b)[3]? = some (.int .i64 u.asid) := rfl
theorem un4 (u : Un) (m b : Nat) : (u.cs m b)[4]? = some (.int .u64 (u.ppn : Int)) := rfl
/-- A unit's objects. -/
def unO (ub m b n k mm : Nat) (u : Un) (S : Nat → List Nat) (T : List (List En)) (os : List Obj) : List Obj := blkO ub 89 (u.cs m b) :: bufO b k mm T :: memO m n S :: os
def Un.Ok (u : Un) : Prop := u.ppn < 18446744073709551616 ∧ (Lit.int .i64 u.asid).wf = true
def LeafR (W : World) (ub m b n k mm : Nat) (u : Un) (S : Nat → List Nat) (T : List (List En)) (os : List Obj) (va : Nat) (a pick : Int) (e : Ending) (w' : World) : Prop :=
  e = .returned (.tuple #[.agg (leafM n S T u va a pick).1.cs, .int .i64 (leafM n S T u va a pick).2.1]) ∧ Objs W (unO ub m b n k mm u S (leafM n S T u va a pick).2.2 os) w' ∧ Below W.heap.size W w'
set_option maxRecDepth 100000 in
set_option maxHeartbeats 4000000 in
theorem mleaf_any (ub m b n k mm : Nat) (u : Un) (S : Nat → List Nat) (T : List (List En)) (os : List Obj) (va : Nat) (a pick : Int) (W w : World) (hv : va < 18446744073709551616) (hp : -9223372036854775808 ≤ pick ∧ pick < 9223372036854775808) (hu : u.Ok)
    (h : Objs W (unO ub m b n k mm u S T os) w) :
    Calls Tryz.prog 52 #[.pointer (some ⟨ub, 0, none⟩), .int .u64 va, .int .i64 a, .int .i64 pick] w (LeafR W ub m b n k mm u S T os va a pick) := by
  have HR : Hid (LeafR W ub m b n k mm u S T os va a pick = LeafR W ub m b n k mm u S T os va a pick) := Lib.hid rfl
  unfold unO at h
  have HO1 := Lib.hid (h.push tlb_lf0.cs 98 rfl)
  have HV := Lib.hid hv
  have HP := Lib.hid hp
  have HU := Lib.hid hu
  obtain ⟨g0, hg0⟩ : ∃ g0, g0 = w.heap.size := ⟨_, rfl⟩
  rw [← hg0] at HO1
  have hne : g0 ≠ ub := by have := (h.blk 0 rfl).lt; omega
  have HNE := Lib.hid hne
  clear h hp hu hv hne
  go_enter Tryz.func52, Tryz.ntmps52
  go_wp2_with fail
  rw [← hg0]
  refine wp_world (fun w1 hw1 => ?_)
  have HO1 : Hid (Objs W (blkO g0 98 tlb_lf0.cs :: unO ub m b n k mm u S T os) w1) := Lib.hid (by rw [hw1]; exact HO1.out)
  clear hw1 hg0
  have hul := (HO1.out.blk 1 rfl).lt
  have s1 : ∀ W', SameL [ub] w1.drew W' → W'.cell? ⟨ub, 1, none⟩ = some (.pointer (some ⟨b, 0, none⟩)) := fun W' h => h.cell (by simp) ((HO1.out.drew.blk 1 rfl).cell 1)
  have s3 : ∀ W', SameL [ub] w1.drew W' → W'.cell? ⟨ub, 3, none⟩ = some (.int .i64 u.asid) := fun W' h => h.cell (by simp) ((HO1.out.drew.blk 1 rfl).cell 3)
  refine wp_region_pt (SameL [ub]) (later_same [ub]) (PT.steps [0, 1, 2, 3, 4, 5, 6, 7, 8, 9] (.fork 10 (.step 11 (.step 12 (.step 13 (.turn 14 (.rest 2 (doneL 17 [0, 1, 2, 3, 4, 5, 6, 7, 8, 9, 10, 11, 12, 13, 14])))))) 14 (.turn 10 (.step 11 (.step 12 (.step 13 (.rest 2 (doneL 17 [0, 1, 2, 3, 4, 5, 6, 7, 8, 9, 10, 11, 12, 13, 14])))))))) (by kernel_rfl) (by kernel_rfl) (fun _ d _ _ _ h => by cases d <;> exact h) ?_
  unfold PT.steps
  iterate 10 (refine pt_take (v := ?_) rfl (by kernel_rfl) ?_ ?_; rotate_left; (focus (intro w' hw'; try go_simp; try with_reducible rfl)); simp only [Act.put, List.setIfInBounds_toArray, List.set_cons_zero, List.set_cons_succ])
  clear s1 s3
  have HD1 := Lib.hid HO1.out.drew
  generalize w1.drew = y1 at HD1 ⊢
  obtain ⟨fs, hfs⟩ : ∃ fs, fs = findS T va u.asid := ⟨_, rfl⟩
  have HFS := Lib.hid hfs
  clear hfs
  refine pt_join (L := doneL 17 [0, 1, 2, 3, 4, 5, 6, 7, 8, 9, 10, 11, 12, 13, 14]) (k := 2) (ds := [(10, some 24), (11, some 13), (12, some 25), (13, some 26), (14, some 10)]) (fun x wz => ∃ g, x 10 = .tuple #[.agg (fs.getD tlb_lf0).cs, .bool fs.isSome] ∧ x 11 = .tuple #[.agg (fs.getD tlb_lf0).cs, .bool fs.isSome] ∧ x 12 = .agg (fs.getD tlb_lf0).cs ∧ x 13 = .bool fs.isSome ∧ x 14 = .pointer (some ⟨g, 0, none⟩) ∧ Objs W (blkO g 98 tlb_lf0.cs :: blkO g0 98 tlb_lf0.cs :: unO ub m b n k mm u S T os) wz) (.turn 15 (.step 16 .done)) (by kernel_rfl) (later_same [ub]) (fun _ d _ _ _ h => by cases d <;> exact h) rfl (by kernel_rfl) ?_ ?_
  · rintro x wz ⟨g, e10, e11, e12, e13, e14, hO⟩
    simp only [fill, Act.put, List.setIfInBounds_toArray, List.set_cons_zero, List.set_cons_succ]
    rw [e10, e11, e12, e13, e14]
    refine pt_turn ?_
    refine pt_op (R := SameL [ub]) rfl (by kernel_rfl) (fun K hK => ?_)
    refine wo_row 98 (.tmp 10) (.tmp 25) rfl g 98 tlb_lf0.cs (fs.getD tlb_lf0).cs rfl rfl (hO.blk 0 rfl) rfl (tlb_leaf_row _) (tlb_lcs_one _) ?_
    refine hK _ _ ⟨SameL.row _ _ (fun q hq => by simp only [List.mem_singleton] at hq; rw [hq]; exact hO.ne 2 0 rfl rfl (by decide)), ?_⟩
    clear hK K
    (try simp only [Act.put, List.setIfInBounds_toArray, List.set_cons_zero, List.set_cons_succ])
    iterate 1 (refine pt_take (v := ?_) rfl (by kernel_rfl) ?_ ?_; rotate_left; (focus (intro w' hw'; try go_simp; try with_reducible rfl)); simp only [Act.put, List.setIfInBounds_toArray, List.set_cons_zero, List.set_cons_succ])
    refine pt_end ?_
    have HO3 := Lib.hid (hO.row 0 rfl (fs.getD tlb_lf0).cs)
    have HG0 : Hid (g ≠ g0) := Lib.hid (hO.ne 0 1 rfl rfl (by decide))
    have HGU : Hid (g ≠ ub) := Lib.hid (hO.ne 0 2 rfl rfl (by decide))
    generalize wz.setRow g (fs.getD tlb_lf0).cs = w3 at HO3 ⊢
    clear e10 e11 e12 e13 e14 x hO HD1 HO1
    cases fs with
    | some lf =>
      have HRL : Hid (leafM n S T u va a pick = (lf, -1, T)) := Lib.hid (by unfold leafM; rw [← HFS.out])
      have HO3 : Hid (Objs W (blkO g 98 lf.cs :: blkO g0 98 tlb_lf0.cs :: unO ub m b n k mm u S T os) w3) := HO3
      have hrg := lf_range (i := 0) HO3.out rfl
      have HO4 := Lib.hid (HO3.out.row 1 rfl lf.cs)
      simp only [Option.getD_some, Option.isSome_some]
      have hbk := HO3.out.blk 1 rfl
      go_wp2_with (first | ((with_reducible refine wl_load 98 (.tmp 10) rfl ?_ g 0 lf.cs ?_ hrg ?_ ?_); exact rfl; exact rfl; exact tlb_leaf_row lf) | ((with_reducible refine wl_store 98 (.tmp 8) (.tmp 28) rfl ?_ g0 98 tlb_lf0.cs lf.cs ?_ ?_ hbk ?_ ?_ ?_ ?_); exact rfl; exact rfl; exact rfl; exact rfl; exact tlb_leaf_row lf; exact tlb_lcs_one lf))
      refine bodyPost_ret (v := .tuple #[.agg lf.cs, .int .i64 (-1)]) (res_cell_slot Tryz.results52 _ _ g0 98 _ _ rfl rfl (HO4.out.blk 1 rfl) (tlb_leaf_row lf)) rfl ?_
      unfold LeafR
      rw [HRL.out]
      exact ⟨rfl, HO4.out.drop 2, HO4.out.bel⟩
    | none =>
      have HO3 : Hid (Objs W (blkO g 98 tlb_lf0.cs :: blkO g0 98 tlb_lf0.cs :: unO ub m b n k mm u S T os) w3) := HO3
      simp only [Option.getD_none, Option.isSome_none]
      have HRL : Hid (leafM n S T u va a pick = if fdE (findW n S u.on u.ppn va) = 0 then (fdT (findW n S u.on u.ppn va), -1, fillB T va u.asid (fdT (findW n S u.on u.ppn va)) pick)
        else (fdT (findW n S u.on u.ppn va), if fdE (findW n S u.on u.ppn va) = 61 then causeV a 1 5 7 else causeV a 12 13 15, T)) := Lib.hid (by unfold leafM; rw [← HFS.out])
      have HWF := Lib.hid (fdT_wf n S u.on u.ppn va)
      obtain ⟨fd, hfd⟩ : ∃ fd, fd = findW n S u.on u.ppn va := ⟨_, rfl⟩
      rw [← hfd] at HRL HWF
      have HFD := Lib.hid hfd
      clear hfd
      obtain ⟨lf, hlf⟩ : ∃ lf, lf = fdT fd := ⟨_, rfl⟩
      rw [← hlf] at HRL HWF
      have HLF := Lib.hid hlf
      clear hlf
      go_wp2_with fail
      have s0 : ∀ W', SameL [ub] w3.drew W' → W'.cell? ⟨ub, 0, none⟩ = some (.pointer (some ⟨m, 0, none⟩)) := fun W' h => h.cell (by simp) ((HO3.out.drew.blk 2 rfl).cell 0)
      have s2 : ∀ W', SameL [ub] w3.drew W' → W'.cell? ⟨ub, 2, none⟩ = some (.bool u.on) := fun W' h => h.cell (by simp) ((HO3.out.drew.blk 2 rfl).cell 2)
      have s3 : ∀ W', SameL [ub] w3.drew W' → W'.cell? ⟨ub, 3, none⟩ = some (.int .i64 u.asid) := fun W' h => h.cell (by simp) ((HO3.out.drew.blk 2 rfl).cell 3)
      have s4 : ∀ W', SameL [ub] w3.drew W' → W'.cell? ⟨ub, 4, none⟩ = some (.int .u64 (u.ppn : Int)) := fun W' h => h.cell (by simp) ((HO3.out.drew.blk 2 rfl).cell 4)
      refine wp_region_plan_by (SameL [ub]) (later_same [ub]) [(0, false), (1, false), (2, false), (3, false), (4, false), (5, false), (6, false), (7, false), (8, false), (9, true), (10, false), (11, false), (12, false), (13, true), (14, false)] (by kernel_rfl) (by kernel_rfl) (fun _ d _ _ _ h => by cases d <;> exact h) ?_
      iterate 9 (refine plan_take (v := ?_) rfl (by kernel_rfl) ?_ ?_; rotate_left; (focus (intro w' hw'; try go_simp; try with_reducible rfl)); simp only [Act.put, List.setIfInBounds_toArray, List.set_cons_zero, List.set_cons_succ])
      clear s0 s2 s3 s4
      have HD3 := Lib.hid HO3.out.drew
      generalize w3.drew = y3 at HD3 ⊢
      clear HO3
      refine plan_call rfl (by kernel_rfl) (by go_simp; exact ⟨rfl, rfl⟩) ?_
      refine (HD3.out.memFind 4 rfl va u.ppn u.asid u.on HV.out HU.out.1).mono ?_
      rintro e y4 ⟨rfl, hO4, hx4⟩
      rw [← HFD.out, fdV_T, ← HLF.out]
      refine ⟨_, rfl, (SameL.ext hx4 (fun q hq => by simp only [List.mem_singleton] at hq; rw [hq]; exact (HD3.out.blk 2 rfl).lt)), ?_⟩
      simp only [Act.put, List.setIfInBounds_toArray, List.set_cons_zero, List.set_cons_succ]
      iterate 3 (refine plan_take (v := ?_) rfl (by kernel_rfl) ?_ ?_; rotate_left; (focus (intro w' hw'; try go_simp; try with_reducible rfl)); simp only [Act.put, List.setIfInBounds_toArray, List.set_cons_zero, List.set_cons_succ])
      clear HD3
      refine plan_turn rfl (by kernel_rfl) (fun K hK => ?_)
      refine wo_row 98 (.tmp 10) (.tmp 40) rfl g 98 tlb_lf0.cs lf.cs rfl rfl (hO4.blk 0 rfl) rfl (tlb_leaf_row _) (tlb_lcs_one _) ?_
      refine hK _ _ ⟨SameL.row _ _ (fun q hq => by simp only [List.mem_singleton] at hq; rw [hq]; exact hO4.ne 2 0 rfl rfl (by decide)), ?_⟩
      clear hK K
      (try simp only [Act.put, List.setIfInBounds_toArray, List.set_cons_zero, List.set_cons_succ])
      iterate 1 (refine plan_take (v := ?_) rfl (by kernel_rfl) ?_ ?_; rotate_left; (focus (intro w' hw'; try go_simp; try with_reducible rfl)); simp only [Act.put, List.setIfInBounds_toArray, List.set_cons_zero, List.set_cons_succ])
      refine plan_end ?_
      have HO5 := Lib.hid (hO4.row 0 rfl lf.cs)
      generalize y4.setRow g lf.cs = w5 at HO5 ⊢
      clear hO4 hx4
      have hrg := lf_range (i := 0) HO5.out rfl
      have hrd := lf_range (i := 0) HO5.out.drew rfl
      have HRD := Lib.hid hrd
      clear hrd
      rcases (show fdE fd = 0 ∨ fdE fd = 61 ∨ (fdE fd ≠ 0 ∧ fdE fd ≠ 61) by omega) with he | he | ⟨he, he2⟩
      · rw [if_pos he] at HRL
        rw [he]
        go_wp2_with fail
        have s1 : ∀ W', SameL [ub, g] w5.drew W' → W'.cell? ⟨ub, 1, none⟩ = some (.pointer (some ⟨b, 0, none⟩)) := fun W' h => h.cell (by simp) ((HO5.out.drew.blk 2 rfl).cell 1)
        have s3 : ∀ W', SameL [ub, g] w5.drew W' → W'.cell? ⟨ub, 3, none⟩ = some (.int .i64 u.asid) := fun W' h => h.cell (by simp) ((HO5.out.drew.blk 2 rfl).cell 3)
        refine wp_region_plan_by (SameL [ub, g]) (later_same [ub, g]) [(0, false), (1, false), (2, false), (3, false), (4, false), (5, false), (6, false), (7, false), (8, false), (9, false), (10, false), (11, false), (12, true)] (by kernel_rfl) (by kernel_rfl) (fun _ d _ _ _ h => by cases d <;> exact h) ?_
        iterate 10 (refine plan_take (v := ?_) rfl (by kernel_rfl) ?_ ?_; rotate_left; (focus (intro w' hw'; try go_simp; try with_reducible rfl)); simp only [Act.put, List.setIfInBounds_toArray, List.set_cons_zero, List.set_cons_succ])
        refine plan_take (v := .agg lf.cs) rfl (by kernel_rfl) (fun w' hw' => run_load_op 98 (.tmp 10) rfl g 0 lf.cs rfl (hw'.blk (by simp) (HO5.out.drew.blk 0 rfl)).range (tlb_leaf_row lf)) ?_
        simp only [Act.put, List.setIfInBounds_toArray, List.set_cons_zero, List.set_cons_succ]
        iterate 1 (refine plan_take (v := ?_) rfl (by kernel_rfl) ?_ ?_; rotate_left; (focus (intro w' hw'; try go_simp; try with_reducible rfl)); simp only [Act.put, List.setIfInBounds_toArray, List.set_cons_zero, List.set_cons_succ])
        clear s1 s3
        refine plan_call rfl (by kernel_rfl) (by go_simp; exact ⟨rfl, rfl⟩) ?_
        refine (HO5.out.drew.bufFill 3 rfl va u.asid lf pick HV.out HP.out HWF.out HU.out.2).mono ?_
        rintro e y6 ⟨rfl, hO6, hb6⟩
        have hS6 : SameL [ub, g] w5.drew y6 := fun q hq => by
          simp only [List.mem_cons, List.not_mem_nil, or_false] at hq
          rcases hq with rfl | rfl
          · exact HO5.out.drew.same hO6 2 2 rfl rfl
          · exact HO5.out.drew.same hO6 0 0 rfl rfl
        refine ⟨_, rfl, hS6, ?_⟩
        simp only [Act.put, List.setIfInBounds_toArray, List.set_cons_zero, List.set_cons_succ]
        refine plan_end ?_
        have HO6 := Lib.hid hO6
        have hrg := lf_range (i := 0) HO6.out rfl
        have HO7 := Lib.hid (HO6.out.row 1 rfl lf.cs)
        have hbk := HO6.out.blk 1 rfl
        clear hO6 hb6
        go_wp2_with (first | ((with_reducible refine wl_load 98 (.tmp 10) rfl ?_ g 0 lf.cs ?_ hrg ?_ ?_); exact rfl; exact rfl; exact tlb_leaf_row lf) | ((with_reducible refine wl_store 98 (.tmp 8) (.tmp 58) rfl ?_ g0 98 tlb_lf0.cs lf.cs ?_ ?_ hbk ?_ ?_ ?_ ?_); exact rfl; exact rfl; exact rfl; exact rfl; exact tlb_leaf_row lf; exact tlb_lcs_one lf))
        refine bodyPost_ret (v := .tuple #[.agg lf.cs, .int .i64 (-1)]) (res_cell_slot Tryz.results52 _ _ g0 98 _ _ rfl rfl (HO7.out.blk 1 rfl) (tlb_leaf_row lf)) rfl ?_
        unfold LeafR
        rw [HRL.out]
        exact ⟨rfl, HO7.out.drop 2, HO7.out.bel⟩
      · rw [if_neg (by rw [he]; decide), if_pos he] at HRL
        rw [he]
        go_wp2_with fail
        refine wp_region_plan_by (SameL [g]) (later_same [g]) [(0, false), (1, false), (2, true), (3, true), (4, false)] (by kernel_rfl) (by kernel_rfl) (fun _ d _ _ _ h => by cases d <;> exact h) ?_
        refine plan_take (v := .agg lf.cs) rfl (by kernel_rfl) (fun w' hw' => run_load_op 98 (.tmp 10) rfl g 0 lf.cs rfl (hw'.blk (by simp) (HO5.out.drew.blk 0 rfl)).range (tlb_leaf_row lf)) ?_
        simp only [Act.put, List.setIfInBounds_toArray, List.set_cons_zero, List.set_cons_succ]
        iterate 1 (refine plan_take (v := ?_) rfl (by kernel_rfl) ?_ ?_; rotate_left; (focus (intro w' hw'; try go_simp; try with_reducible rfl)); simp only [Act.put, List.setIfInBounds_toArray, List.set_cons_zero, List.set_cons_succ])
        refine plan_call rfl (by kernel_rfl) (by go_simp; exact ⟨rfl, rfl⟩) ?_
        refine (bound_any a _).mono ?_
        rintro e y6 ⟨rfl, rfl⟩
        have HO6 := Lib.hid (HO5.out.drew.step (ext_alloc _ (.cells #[.int .i64 1, .int .i64 5, .int .i64 7] 155)))
        refine ⟨_, rfl, (SameL.ext (ext_alloc _ _) (fun q hq => by simp only [List.mem_singleton] at hq; rw [hq]; exact (HO5.out.drew.blk 0 rfl).lt)), ?_⟩
        simp only [Act.put, List.setIfInBounds_toArray, List.set_cons_zero, List.set_cons_succ]
        refine plan_turn rfl (by kernel_rfl) (fun K hK => ?_)
        refine wo_row 98 (.tmp 8) (.tmp 61) rfl g0 98 tlb_lf0.cs lf.cs rfl rfl (HO6.out.blk 1 rfl) rfl (tlb_leaf_row _) (tlb_lcs_one _) ?_
        refine hK _ _ ⟨SameL.row _ _ (fun q hq => by simp only [List.mem_singleton] at hq; rw [hq]; exact HG0.out), ?_⟩
        clear hK K
        (try simp only [Act.put, List.setIfInBounds_toArray, List.set_cons_zero, List.set_cons_succ])
        iterate 1 (refine plan_take (v := ?_) rfl (by kernel_rfl) ?_ ?_; rotate_left; (focus (intro w' hw'; try go_simp; try with_reducible rfl)); simp only [Act.put, List.setIfInBounds_toArray, List.set_cons_zero, List.set_cons_succ])
        refine plan_end ?_
        have HO7 := Lib.hid (HO6.out.row 1 rfl lf.cs)
        go_wp2_with fail
        refine bodyPost_ret (v := .tuple #[.agg lf.cs, .int .i64 (causeV a 1 5 7)]) (res_cell_slot Tryz.results52 _ _ g0 98 _ _ rfl rfl (HO7.out.blk 1 rfl) (tlb_leaf_row lf)) rfl ?_
        unfold LeafR
        rw [HRL.out]
        exact ⟨rfl, HO7.out.drop 2, HO7.out.bel⟩
      · rw [if_neg he, if_neg he2] at HRL
        generalize fdE fd = er at *
        have hd1 : (er == 0) = false := by simpa using he
        have hd2 : (er == 61) = false := by simpa using he2
        go_wp2_with fail
        refine wp_region_plan_by (SameL [g]) (later_same [g]) [(0, false), (1, false), (2, true), (3, true), (4, false)] (by kernel_rfl) (by kernel_rfl) (fun _ d _ _ _ h => by cases d <;> exact h) ?_
        refine plan_take (v := .agg lf.cs) rfl (by kernel_rfl) (fun w' hw' => run_load_op 98 (.tmp 10) rfl g 0 lf.cs rfl (hw'.blk (by simp) (HO5.out.drew.blk 0 rfl)).range (tlb_leaf_row lf)) ?_
        simp only [Act.put, List.setIfInBounds_toArray, List.set_cons_zero, List.set_cons_succ]
        iterate 1 (refine plan_take (v := ?_) rfl (by kernel_rfl) ?_ ?_; rotate_left; (focus (intro w' hw'; try go_simp; try with_reducible rfl)); simp only [Act.put, List.setIfInBounds_toArray, List.set_cons_zero, List.set_cons_succ])
        refine plan_call rfl (by kernel_rfl) (by go_simp; exact ⟨rfl, rfl⟩) ?_
        refine (page_any a _).mono ?_
        rintro e y6 ⟨rfl, rfl⟩
        have HO6 := Lib.hid (HO5.out.drew.step (ext_alloc _ (.cells #[.int .i64 12, .int .i64 13, .int .i64 15] 155)))
        refine ⟨_, rfl, (SameL.ext (ext_alloc _ _) (fun q hq => by simp only [List.mem_singleton] at hq; rw [hq]; exact (HO5.out.drew.blk 0 rfl).lt)), ?_⟩
        simp only [Act.put, List.setIfInBounds_toArray, List.set_cons_zero, List.set_cons_succ]
        refine plan_turn rfl (by kernel_rfl) (fun K hK => ?_)
        refine wo_row 98 (.tmp 8) (.tmp 64) rfl g0 98 tlb_lf0.cs lf.cs rfl rfl (HO6.out.blk 1 rfl) rfl (tlb_leaf_row _) (tlb_lcs_one _) ?_
        refine hK _ _ ⟨SameL.row _ _ (fun q hq => by simp only [List.mem_singleton] at hq; rw [hq]; exact HG0.out), ?_⟩
        clear hK K
        (try simp only [Act.put, List.setIfInBounds_toArray, List.set_cons_zero, List.set_cons_succ])
        iterate 1 (refine plan_take (v := ?_) rfl (by kernel_rfl) ?_ ?_; rotate_left; (focus (intro w' hw'; try go_simp; try with_reducible rfl)); simp only [Act.put, List.setIfInBounds_toArray, List.set_cons_zero, List.set_cons_succ])
        refine plan_end ?_
        have HO7 := Lib.hid (HO6.out.row 1 rfl lf.cs)
        go_wp2_with fail
        refine bodyPost_ret (v := .tuple #[.agg lf.cs, .int .i64 (causeV a 12 13 15)]) (res_cell_slot Tryz.results52 _ _ g0 98 _ _ rfl rfl (HO7.out.blk 1 rfl) (tlb_leaf_row lf)) rfl ?_
        unfold LeafR
        rw [HRL.out]
        exact ⟨rfl, HO7.out.drop 2, HO7.out.bel⟩
  · intro HEND
    refine pt_fork ?_ ?_
    focus
      refine pt_opcall (R := SameL [ub]) rfl (by kernel_rfl) (by go_simp; exact ⟨rfl, rfl⟩) ?_
      refine (HD1.out.bufFind 2 rfl va u.asid HV.out).mono ?_
      rintro e y2 ⟨rfl, hO, hx⟩
      rw [← HFS.out]
      refine ⟨_, rfl, SameL.ext hx (fun q hq => by simp only [List.mem_singleton] at hq; rw [hq]; exact (HD1.out.blk 1 rfl).lt), ?_⟩
      (try simp only [Act.put, List.setIfInBounds_toArray, List.set_cons_zero, List.set_cons_succ])
      iterate 3 (refine pt_take (v := ?_) rfl (by kernel_rfl) ?_ ?_; rotate_left; (focus (intro w' hw'; try go_simp; try with_reducible rfl)); simp only [Act.put, List.setIfInBounds_toArray, List.set_cons_zero, List.set_cons_succ])
      refine pt_turn ?_
      refine pt_op (R := SameL [ub]) rfl (by kernel_rfl) (fun K hK => ?_)
      go_simp
      refine hK _ _ ⟨SameL.ext (ext_alloc _ _) (fun q hq => by simp only [List.mem_singleton] at hq; rw [hq]; exact (hO.blk 1 rfl).lt), ?_⟩
      clear hK K
      have hfin := HEND (xs5 (.tuple #[.agg (fs.getD tlb_lf0).cs, .bool fs.isSome]) (.tuple #[.agg (fs.getD tlb_lf0).cs, .bool fs.isSome]) (.agg (fs.getD tlb_lf0).cs) (.bool fs.isSome) (.pointer (some ⟨y2.heap.size, 0, none⟩))) _ ⟨y2.heap.size, rfl, rfl, rfl, rfl, rfl, hO.push tlb_lf0.cs 98 rfl⟩
      simp only [fill, xs5, Act.put, List.setIfInBounds_toArray, List.set_cons_zero, List.set_cons_succ] at hfin ⊢
      exact hfin
    focus
      refine pt_op (R := SameL [ub]) rfl (by kernel_rfl) (fun K hK => ?_)
      go_simp
      refine hK _ _ ⟨SameL.ext (ext_alloc _ _) (fun q hq => by simp only [List.mem_singleton] at hq; rw [hq]; exact (HD1.out.blk 1 rfl).lt), ?_⟩
      clear hK K
      (try simp only [Act.put, List.setIfInBounds_toArray, List.set_cons_zero, List.set_cons_succ])
      have HD2 := Lib.hid (HD1.out.push tlb_lf0.cs 98 rfl)
      refine pt_turn ?_
      refine pt_opcall (R := SameL [ub]) rfl (by kernel_rfl) (by go_simp; exact ⟨rfl, rfl⟩) ?_
      refine (HD2.out.bufFind 3 rfl va u.asid HV.out).mono ?_
      rintro e y2 ⟨rfl, hO, hx⟩
      rw [← HFS.out]
      refine ⟨_, rfl, SameL.ext hx (fun q hq => by simp only [List.mem_singleton] at hq; rw [hq]; exact (HD2.out.blk 2 rfl).lt), ?_⟩
      (try simp only [Act.put, List.setIfInBounds_toArray, List.set_cons_zero, List.set_cons_succ])
      iterate 3 (refine pt_take (v := ?_) rfl (by kernel_rfl) ?_ ?_; rotate_left; (focus (intro w' hw'; try go_simp; try with_reducible rfl)); simp only [Act.put, List.setIfInBounds_toArray, List.set_cons_zero, List.set_cons_succ])
      have hfin := HEND (xs5 (.tuple #[.agg (fs.getD tlb_lf0).cs, .bool fs.isSome]) (.tuple #[.agg (fs.getD tlb_lf0).cs, .bool fs.isSome]) (.agg (fs.getD tlb_lf0).cs) (.bool fs.isSome) (.pointer (some ⟨y1.heap.size, 0, none⟩))) _ ⟨y1.heap.size, rfl, rfl, rfl, rfl, rfl, hO⟩
      simp only [fill, xs5, Act.put, List.setIfInBounds_toArray, List.set_cons_zero, List.set_cons_succ] at hfin ⊢
      exact hfin
end Go.Proofs.YtophcgbddccpeaaGreat
