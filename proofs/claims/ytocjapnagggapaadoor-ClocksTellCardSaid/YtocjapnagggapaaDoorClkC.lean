/- The book of what was met, as an object; a cell of it. -/
import Derived.Test.YtocjapnagggapaaDoorClkB
namespace Go.Proofs.YtocjapnagggapaaDoor
open Go.RowKit Go.Maps

def ptrR (v : Value) : Option (DataW Unit × List MemPlace) :=
  match v with
  | .pointer none => some (.lit (.bool false), [])
  | .pointer (some ⟨b, 0, none⟩) => some (.lit (.int .i64 (b : Int)), [])
  | _ => none
def ptrV : Option Nat → Value
  | none => .pointer none
  | some b => .pointer (some ⟨b, 0, none⟩)
def ptrD : Option Nat → DataW Unit
  | none => .lit (.bool false)
  | some b => .lit (.int .i64 (b : Int))
theorem ptrR_V (o : Option Nat) : ptrR (ptrV o) = some (ptrD o, []) := by cases o <;> rfl
theorem ptrR_inv {v : Value} {o : Option Nat} {ps : List MemPlace} (h : ptrR v = some (ptrD o, ps)) : v = ptrV o := by
  unfold ptrR at h
  split at h
  · cases o
    · rfl
    · simp [ptrD] at h
  · rename_i b
    cases o with
    | none => simp [ptrD] at h
    | some c =>
      simp [ptrD] at h
      have : b = c := by have := h.1; omega
      subst this; rfl
  · cases h
theorem lawU : Keyed Tryd.prog 31 := int_keyed Tryd.underlying31
theorem zeroP (w : World) : (zeroValue 70).run Tryd.prog w = .ok (.pointer none) w := by kernel_rfl
theorem keyU {f : Int} (h : (Lit.int .u64 f).wf = true) : keyOf Tryd.prog 31 (.int .u64 f) = some (.int .u64 f) := keyOf_int_mk Tryd.underlying31 h
theorem isKeyU (f : Int) : WideAt.IsKeyLit (.int .u64 f) := by simp [WideAt.IsKeyLit]
theorem wfU {k : Nat} (h : k < 18446744073709551616) : (Lit.int .u64 (k : Int)).wf = true := by
  simp [Lit.wf, IntKind.min, IntKind.max, IntKind.signed, IntKind.bits]
  omega
/-- Block b is a map that holds a pointer to the block loc k at each number k of K, and nothing else. -/
def UMap (w : World) (b : Nat) (K : List Nat) (loc : Nat → Nat) : Prop := ∃ D : DataW Unit, w.ownsMap Tryd.prog 31 ptrR b K.length D ∧
  ∀ k : Nat, k < 18446744073709551616 → D.atKey (.int .u64 (k : Int)) (.lit (.bool false)) = ptrD (if k ∈ K then some (loc k) else none)
theorem UMap.lt {w : World} {b : Nat} {K : List Nat} {loc : Nat → Nat} (h : UMap w b K loc) : b < w.heap.size := by
  obtain ⟨D, h, _⟩ := h; exact h.lt
theorem UMap.keep {w w' : World} {b : Nat} {K : List Nat} {loc : Nat → Nat} {row : Option Nat} (h : UMap w b K loc) (hg : w.grownBy w' row) (hne : some b ≠ row) : UMap w' b K loc := by
  obtain ⟨D, h, r⟩ := h; exact ⟨D, h.kept hg hne, r⟩
theorem UMap.keeps {w w' : World} {b : Nat} {K : List Nat} {loc : Nat → Nat} {F : Nat → Prop} (h : UMap w b K loc) (hg : Keeps F w w') (hne : ¬ F b) : UMap w' b K loc := by
  obtain ⟨D, h, r⟩ := h; exact ⟨D, hg.map h hne, r⟩
theorem UMap.look {w : World} {b : Nat} {K : List Nat} {loc : Nat → Nat} (h : UMap w b K loc) {k : Nat} (hk : k < 18446744073709551616) :
    (Instr.lookup 45 (.map (some b)) (.int .u64 (k : Int)) false).run Tryd.prog w = .ok (ptrV (if k ∈ K then some (loc k) else none)) w := by
  obtain ⟨D, h, hD⟩ := h
  obtain ⟨v, ps, hrun, hv⟩ := h.lookup lawU Tryd.underlying45 (zeroP w) (ptrR_V none) (keyU (wfU hk))
  rw [show ptrD none = .lit (.bool false) from rfl, hD k hk] at hv
  rw [hrun, ptrR_inv hv]
theorem UMap.new (w : World) (loc : Nat → Nat) : UMap (w.alloc (.map #[] 0)) w.heap.size [] loc :=
  ⟨.map [], World.ownsMap_made _ _ _ _, fun k hk => by simp [DataW.atKey, ptrD]⟩
theorem UMap.put {w : World} {b : Nat} {K : List Nat} {loc : Nat → Nat} (h : UMap w b K loc) {k p : Nat} (hk : k < 18446744073709551616) (hm : K.length < maxLen) :
    ∃ w', (Instr.mapUpdate 45 (.map (some b)) (.int .u64 (k : Int)) (ptrV (some p))).run Tryd.prog w = .ok () w' ∧ UMap w' b (k :: K) (fun j => if j = k then p else loc j) ∧ w.grownBy w' (some b) := by
  obtain ⟨D, h, hD⟩ := h
  obtain ⟨w', hrun, h', hg⟩ := h.update lawU Tryd.underlying45 hm (keyU (wfU hk)) (ptrR_V (some p))
  refine ⟨w', hrun, ⟨_, h', fun j hj => ?_⟩, hg⟩
  by_cases e : j = k
  · subst e
    rw [Maps.atKey_put_same h.isMap (isKeyU _)]
    simp
  · have hne : (Lit.int .u64 (j : Int)) ≠ .int .u64 (k : Int) := by intro h; injection h with _ h; exact e (by omega)
    rw [Maps.atKey_put_other hne, hD j hj]
    simp [e]
section
variable {ops : Array Oper} {rest : List Oper} {o : Oper} {a : Act} {Q : Exit → Act → World → Prop}
theorem wpList_uput (w : World) (hg : o.guard = none) (m x v : Operand) (hop : o.op = Op.mapUpdate 45 m x v) (b : Nat) (K : List Nat) (loc : Nat → Nat) (k p : Nat)
    (hm : a.eval m = .map (some b)) (hx : a.eval x = .int .u64 (k : Int)) (hv : a.eval v = .pointer (some ⟨p, 0, none⟩)) (h : UMap w b K loc) (hk : k < 18446744073709551616) (hmax : K.length < maxLen)
    (hK : ∀ w', UMap w' b (k :: K) (fun j => if j = k then p else loc j) → w.grownBy w' (some b) → wpList Tryd.prog ops Q rest (a.put o.dst undef) w') : wpList Tryd.prog ops Q (o :: rest) a w := by
  refine wpList_plain hg fun K' hK' => ?_
  obtain ⟨w', hrun, r1, r2⟩ := h.put (p := p) hk hmax
  unfold Oper.wp
  simp [execOp, hop, hm, hx, hv, ptrV, Result.andThen] at hrun ⊢
  rw [hrun]
  exact hK' _ _ (hK w' r1 r2)
end
/-- A byte's cell: two clocks. -/
def twoF (la to : Nat → Nat) : Nat → Nat := fun i => if i < 16 then la i else to (i - 16)
def cellC (la to : Nat → Nat) : Array Value := fnC 32 (twoF la to)
def bookF (nd : Nat → Nat → Nat) : Nat → Nat := fun i => nd (i / 16) (i % 16)
def bookC (nd : Nat → Nat → Nat) (mb : Nat) : Array Value := fnC 256 (bookF nd) ++ #[.map (some mb)]
theorem bookC_size (nd : Nat → Nat → Nat) (mb : Nat) : (bookC nd mb).size = 257 := by simp [bookC, fnC_size]
theorem bookC_map (nd : Nat → Nat → Nat) (mb : Nat) : (bookC nd mb)[256]? = some (.map (some mb)) := by
  unfold bookC
  rw [Array.getElem?_append_right (by rw [fnC_size]; exact Nat.le_refl _), fnC_size]
  rfl
theorem bookC_get (nd : Nat → Nat → Nat) (mb : Nat) {i : Nat} (h : i < 256) : (bookC nd mb)[i]? = some (.int .i64 (nd (i / 16) (i % 16) : Int)) := by
  unfold bookC
  rw [Array.getElem?_append_left (by rw [fnC_size]; exact h), fnC_get _ h]
  rfl
/-- The book in block g, but for the cells of 'hole'. -/
structure BookAt (w : World) (g mb : Nat) (loc : Nat → Nat) (K : List Nat) (s : Bk) (hole : Nat → Prop) : Prop where
  head : Blk w g 49 (bookC s.nd mb)
  mp : UMap w mb K loc
  page : ∀ k ∈ K, ¬ hole k → Blk w (loc k) 74 (cellC (s.la k) (s.to k))
  zero : ∀ k, k ∉ K → s.la k = (fun _ => 0) ∧ s.to k = (fun _ => 0)
  nd : K.Nodup
  lt : ∀ k ∈ K, k < 18446744073709551616
  inj : ∀ i j, i ∈ K → j ∈ K → loc i = loc j → i = j
  apart : mb ≠ g ∧ (∀ k ∈ K, loc k ≠ g ∧ loc k ≠ mb)
def bkF (g mb : Nat) (loc : Nat → Nat) (K : List Nat) (hole : Nat → Prop) (b : Nat) : Prop := b = g ∨ b = mb ∨ ∃ k ∈ K, ¬ hole k ∧ b = loc k
section
variable {w w' : World} {g mb : Nat} {loc : Nat → Nat} {K : List Nat} {s : Bk} {hole : Nat → Prop}
theorem BookAt.flt (h : BookAt w g mb loc K s hole) : ∀ b, bkF g mb loc K hole b → b < w.heap.size := by
  rintro b (rfl | rfl | ⟨k, hk, hh, rfl⟩)
  · exact h.head.lt
  · exact h.mp.lt
  · exact (h.page k hk hh).lt
theorem BookAt.keeps {F : Nat → Prop} (h : BookAt w g mb loc K s hole) (hk : Keeps F w w') (hF : ∀ b, bkF g mb loc K hole b → ¬ F b) : BookAt w' g mb loc K s hole :=
  ⟨hk.blk h.head (hF _ (.inl rfl)), h.mp.keeps hk (hF _ (.inr (.inl rfl))), fun k hK hh => hk.blk (h.page k hK hh) (hF _ (.inr (.inr ⟨k, hK, hh, rfl⟩))), h.zero, h.nd, h.lt, h.inj, h.apart⟩
end
/-- The book: n cells at the most. -/
def bookO (g n : Nat) (s : Bk) : Obj where
  At w F := ∃ mb loc K, BookAt w g mb loc K s (fun _ => False) ∧ K.length ≤ n ∧ ∀ b, F b ↔ bkF g mb loc K (fun _ => False) b
  keeps := fun ⟨mb, loc, K, h1, h2, h3⟩ k hd => ⟨mb, loc, K, h1.keeps k (fun b hb => hd b ((h3 b).2 hb)), h2, h3⟩
  lt := fun ⟨mb, loc, K, h1, h2, h3⟩ hb => h1.flt _ ((h3 _).1 hb)
/-- The book but for one cell, which lies in block p. -/
def holeO (g n : Nat) (s : Bk) (at_ p : Nat) : Obj where
  At w F := ∃ mb loc K, BookAt w g mb loc K s (fun k => k = at_) ∧ K.length ≤ n ∧ at_ ∈ K ∧ loc at_ = p ∧ ∀ b, F b ↔ bkF g mb loc K (fun k => k = at_) b
  keeps := fun ⟨mb, loc, K, h1, h2, h4, h5, h3⟩ k hd => ⟨mb, loc, K, h1.keeps k (fun b hb => hd b ((h3 b).2 hb)), h2, h4, h5, h3⟩
  lt := fun ⟨mb, loc, K, h1, h2, _, _, h3⟩ hb => h1.flt _ ((h3 _).1 hb)
def putS (s : Bk) (at_ : Nat) (la to : Nat → Nat) : Bk := ⟨s.nd, updC s.la at_ la, updC s.to at_ to⟩
section
variable {W w w' : World} {os : List Obj} {g n at_ p : Nat} {s : Bk} {la to : Nat → Nat}
/-- The cell is put back. -/
theorem Objs.close (h : Objs W (blkO p 74 (cellC la to) :: holeO g n s at_ p :: os) w) : Objs W (bookO g n (putS s at_ la to) :: os) w := by
  obtain ⟨Fs, h1, h2, h3, h4⟩ := h.ex
  match Fs, h1 with
  | F0 :: F1 :: Fr, h1 =>
    obtain ⟨hp, hp2⟩ := h2 0 _ F0 rfl rfl
    obtain ⟨mb, loc, K, hB, hn, hm, hl, hF⟩ := h2 1 _ F1 rfl rfl
    have hd := h3 0 1 F0 F1 rfl rfl (by decide)
    refine ⟨⟨(fun b => F0 b ∨ F1 b) :: Fr, by simpa using h1, fun i O F hO hF2 => ?_, fun i j A B hA hB2 hij b ha hb => ?_, fun i A hA b ha => ?_⟩, h.bel⟩
    · match i, hO, hF2 with
      | 0, hO, hF2 =>
        simp only [List.getElem?_cons_zero, Option.some.injEq] at hO hF2
        subst hO hF2
        refine ⟨mb, loc, K, ⟨hB.head, hB.mp, fun k hk _ => ?_, fun k hk => ?_, hB.nd, hB.lt, hB.inj, hB.apart⟩, hn, fun b => ?_⟩
        · show Blk w (loc k) _ (cellC (updC s.la at_ la k) (updC s.to at_ to k))
          unfold updC
          by_cases e : k = at_
          · rw [if_pos e, if_pos e, e, hl]; exact hp
          · rw [if_neg e, if_neg e]; exact hB.page k hk e
        · have e : k ≠ at_ := fun e => hk (by rw [e]; exact hm)
          show updC s.la at_ la k = _ ∧ updC s.to at_ to k = _
          unfold updC
          rw [if_neg e, if_neg e]
          exact hB.zero k hk
        · constructor
          · rintro (hb | hb)
            · have := (hp2 b).1 hb
              exact .inr (.inr ⟨at_, hm, fun h => h, by rw [this, hl]⟩)
            · rcases (hF b).1 hb with hb | hb | ⟨k, hk, _, hb⟩
              · exact .inl hb
              · exact .inr (.inl hb)
              · exact .inr (.inr ⟨k, hk, fun h => h, hb⟩)
          · rintro (hb | hb | ⟨k, hk, _, hb⟩)
            · exact .inr ((hF b).2 (.inl hb))
            · exact .inr ((hF b).2 (.inr (.inl hb)))
            · by_cases e : k = at_
              · exact .inl ((hp2 b).2 (by rw [hb, e, hl]))
              · exact .inr ((hF b).2 (.inr (.inr ⟨k, hk, e, hb⟩)))
      | i + 1, hO, hF2 => exact h2 (i + 2) O F (by simpa using hO) (by simpa using hF2)
    · match i, j, hA, hB2 with
      | 0, 0, _, _ => exact hij rfl
      | 0, j + 1, hA, hB2 =>
        simp only [List.getElem?_cons_zero, Option.some.injEq] at hA
        subst hA
        rcases ha with ha | ha
        · exact h3 0 (j + 2) F0 B rfl (by simpa using hB2) (by omega) b ha hb
        · exact h3 1 (j + 2) F1 B rfl (by simpa using hB2) (by omega) b ha hb
      | i + 1, 0, hA, hB2 =>
        simp only [List.getElem?_cons_zero, Option.some.injEq] at hB2
        subst hB2
        rcases hb with hb | hb
        · exact h3 (i + 2) 0 A F0 (by simpa using hA) rfl (by omega) b ha hb
        · exact h3 (i + 2) 1 A F1 (by simpa using hA) rfl (by omega) b ha hb
      | i + 1, j + 1, hA, hB2 => exact h3 (i + 2) (j + 2) A B (by simpa using hA) (by simpa using hB2) (by omega) b ha hb
    · match i, hA with
      | 0, hA =>
        simp only [List.getElem?_cons_zero, Option.some.injEq] at hA
        subst hA
        rcases ha with ha | ha
        · exact h4 0 F0 rfl b ha
        · exact h4 1 F1 rfl b ha
      | i + 1, hA => exact h4 (i + 2) A (by simpa using hA) b ha
end
/-- The cells' numbers, nought where nothing was. -/
theorem zeroC (s : Bk) (k : Nat) (h : s.la k = (fun _ => 0) ∧ s.to k = (fun _ => 0)) : cellC (s.la k) (s.to k) = fnC 32 (fun _ => 0) := by
  unfold cellC
  rw [h.1, h.2]
  congr 1
  funext i
  unfold twoF
  split <;> rfl
theorem built_cell : Tryd.prog.built 74 [] = some (fnC 32 (fun _ => 0)) := by kernel_rfl
end Go.Proofs.YtocjapnagggapaaDoor
