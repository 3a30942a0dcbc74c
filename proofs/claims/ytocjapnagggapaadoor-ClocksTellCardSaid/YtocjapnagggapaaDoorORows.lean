/- Opening arguments that are slices of structs, of any plain make; leaves that are slices of numbers. -/
import Derived.Test.YtocjapnagggapaaDoorOpen
import Derived.Deep.Slices
import Derived.ChangeSlices
namespace Go.Proofs.YtocjapnagggapaaDoor
open Go.RowKit Go.ChangeShapes Go.Deep

/-- A slice of structs whose cells are integers of these kinds. -/
def IntRows (ks : List IntKind) (w : World) (a : Option Addr) (len cap : Nat) : Prop :=
  (a = none ∧ len = 0 ∧ cap = 0) ∨
  ∃ x, a = some x ∧ len ≤ cap ∧ cap ≤ maxLen ∧ ∀ i, i < cap → ∀ j k, ks[j]? = some k → ∃ z, w.cell? (x.add (i * ks.length + j)) = some (.int k z) ∧ (Lit.int k z).wf = true
def intsOf (P : Program) : List TypeId → Option (List IntKind)
  | [] => some []
  | t :: r => match P.underlying t, intsOf P r with
    | some (.int k), some ks => some (k :: ks)
    | _, _ => none
theorem intsOf_get {P : Program} : ∀ (ls : List TypeId) (ks : List IntKind), intsOf P ls = some ks → ks.length = ls.length ∧ ∀ (j : Nat) (k : IntKind), ks[j]? = some k → ∃ t, ls[j]? = some t ∧ P.underlying t = some (.int k)
  | [], ks, h => by
    simp only [intsOf, Option.some.injEq] at h
    subst h
    exact ⟨rfl, fun j k h => by simp at h⟩
  | t :: r, ks, h => by
    simp only [intsOf] at h
    split at h
    · rename_i k ks' h1 h2
      injection h with h
      subst h
      obtain ⟨hl, hg⟩ := intsOf_get r ks' h2
      refine ⟨by simp [hl], fun j k' hj => ?_⟩
      match j, hj with
      | 0, hj => simp at hj; subst hj; exact ⟨t, rfl, h1⟩
      | j + 1, hj => exact hg j k' (by simpa using hj)
    · cases h
/-- What a cell of an element may be. -/
inductive LK where
  | int (k : IntKind)
  | bool
  | string
  | ints (k : IntKind)
  | structs (ks : List IntKind)
def LK.ok (w : World) : LK → Value → Prop
  | .int k, v => ∃ x, v = .int k x ∧ (Lit.int k x).wf = true
  | .bool, v => ∃ b, v = .bool b
  | .string, v => ∃ s : ByteArray, v = .string s ∧ s.size ≤ maxLen
  | .ints k, v => ∃ A l c zs, v = .slice A l c ∧ IsRow k w A l c zs
  | .structs ks, v => ∃ A l c, v = .slice A l c ∧ IntRows ks w A l c
/-- A slice of structs whose cells are of these kinds. -/
def IsRows (ks : List LK) (w : World) (a : Option Addr) (len cap : Nat) : Prop :=
  (a = none ∧ len = 0 ∧ cap = 0) ∨
  ∃ x, a = some x ∧ len ≤ cap ∧ cap ≤ maxLen ∧ ∀ i, i < cap → ∀ j k, ks[j]? = some k → ∃ v, w.cell? (x.add (i * ks.length + j)) = some v ∧ k.ok w v

def lkOf (P : Program) (t : TypeId) : Option LK :=
  match P.underlying t with
  | some (.int k) => some (.int k)
  | some .bool => some .bool
  | some .string => some .string
  | some (.slice e) => match P.underlying e with
    | some (.int k) => if P.cellsOf e = 1 then some (.ints k) else none
    | _ => match leaves P 12 e with
      | some ls => match intsOf P ls with
        | some ks => if P.cellsOf e = ls.length then some (.structs ks) else none
        | none => none
      | none => none
  | _ => none
def lkAll (P : Program) : List TypeId → Option (List LK)
  | [] => some []
  | t :: r => match lkOf P t, lkAll P r with
    | some k, some ks => some (k :: ks)
    | _, _ => none
theorem lkAll_get {P : Program} : ∀ (ls : List TypeId) (ks : List LK), lkAll P ls = some ks → ks.length = ls.length ∧ ∀ (j : Nat) (k : LK), ks[j]? = some k → ∃ t, ls[j]? = some t ∧ lkOf P t = some k
  | [], ks, h => by
    simp only [lkAll, Option.some.injEq] at h
    subst h
    exact ⟨rfl, fun j k h => by simp at h⟩
  | t :: r, ks, h => by
    simp only [lkAll] at h
    split at h
    · rename_i k ks' h1 h2
      injection h with h
      subst h
      obtain ⟨hl, hg⟩ := lkAll_get r ks' h2
      refine ⟨by simp [hl], fun j k' hj => ?_⟩
      match j, hj with
      | 0, hj => simp at hj; subst hj; exact ⟨t, rfl, h1⟩
      | j + 1, hj => exact hg j k' (by simpa using hj)
    · cases h
section
variable {H : Type} {enc : TypeId × Value → H} {P : Program} {w : World}
theorem open_introws {t e : TypeId} {ls : List TypeId} {ks : List IntKind} {fuel : Nat} {cs : List Value} {x : DataW H × List MemPlace} (ht : P.underlying t = some (.slice e)) (hl : leaves P 12 e = some ls) (hk : intsOf P ls = some ks) (hC : P.cellsOf e = ls.length)
    (h : DataW.trod enc P w 0 (fun _ => true) true fuel t cs = some x) : ∃ a len cap, cs = [.slice a len cap] ∧ IntRows ks w a len cap := by
  rcases open_slice ht h with ⟨h0, hx⟩ | ⟨a, len, cap, m, n, D, Pl, hcs, hb, hle, hm, hmm, hx, hi⟩
  · exact ⟨_, _, _, h0, .inl ⟨rfl, rfl, rfl⟩⟩
  · have hmc : m = cap := by simpa using hmm
    subst hmc
    obtain ⟨hlen, hget⟩ := intsOf_get ls ks hk
    refine ⟨_, _, _, hcs, .inr ⟨a, rfl, hle, hm, fun i him j k hj => ?_⟩⟩
    obtain ⟨cs', hc, ht'⟩ := hi i him
    obtain ⟨_, hcl, hat⟩ := World.cells?_some hc
    obtain ⟨tl, htl, hlk⟩ := hget j k hj
    have hjl : j < ls.length := by
      rcases Nat.lt_or_ge j ls.length with h1 | h1
      · exact h1
      · rw [List.getElem?_eq_none h1] at htl; cases htl
    have hjc : j < cs'.length := by omega
    have hv : cs'[j]? = some cs'[j] := List.getElem?_eq_getElem hjc
    obtain ⟨m', y, hy⟩ := trod_leaves 12 e ls hl _ _ _ ht' j tl _ htl hv
    obtain ⟨z, hz, _, hw⟩ := DataW.trod_int hlk hy
    have hcell := hat j (by omega)
    rw [hv, Go.Deep.add_add, hC] at hcell
    injection hz with hz _
    rw [hz] at hcell
    rw [hlen]
    exact ⟨z, hcell, hw⟩
theorem lk_ok {m : Nat} {t : TypeId} {k : LK} {v : Value} {y : DataW H × List MemPlace} (hk : lkOf P t = some k) (h : DataW.trod enc P w 0 (fun _ => true) true m t [v] = some y) : k.ok w v := by
  unfold lkOf at hk
  split at hk
  · rename_i k' ht
    injection hk with hk
    subst hk
    obtain ⟨a, e, _, hw⟩ := DataW.trod_int ht h
    injection e with e _
    exact ⟨a, e, hw⟩
  · rename_i ht
    injection hk with hk
    subst hk
    obtain ⟨a, e, _⟩ := DataW.trod_bool ht h
    injection e with e _
    exact ⟨a, e⟩
  · rename_i ht
    injection hk with hk
    subst hk
    obtain ⟨a, e, _, hw⟩ := DataW.trod_string ht h
    injection e with e _
    exact ⟨a, e, hw⟩
  · rename_i e ht
    split at hk
    · rename_i k' he
      split at hk
      · rename_i hc
        injection hk with hk
        subst hk
        rcases open_ints ht he hc h with ⟨hcs, _⟩ | ⟨x, l, c, zs, hcs, _, hl, hm, hz, _, hcell, hwz⟩
        · injection hcs with hcs _
          exact ⟨_, _, _, [], hcs, .inl ⟨rfl, rfl, rfl, rfl⟩⟩
        · injection hcs with hcs _
          exact ⟨_, _, _, zs, hcs, .inr ⟨_, rfl, hl, hm, by simpa using hz, hcell, hwz⟩⟩
      · cases hk
    · split at hk
      · rename_i ls hls
        split at hk
        · rename_i ks hks
          split at hk
          · rename_i hc
            injection hk with hk
            subst hk
            obtain ⟨a, l, c, hcs, hr⟩ := open_introws ht hls hks hc h
            injection hcs with hcs _
            exact ⟨_, _, _, hcs, hr⟩
          · cases hk
        · cases hk
      · cases hk
  · cases hk
/-- A slice of structs, opened. -/
theorem open_rows {t e : TypeId} {ls : List TypeId} {ks : List LK} {fuel : Nat} {cs : List Value} {x : DataW H × List MemPlace} (ht : P.underlying t = some (.slice e)) (hl : leaves P 12 e = some ls) (hk : lkAll P ls = some ks) (hC : P.cellsOf e = ls.length)
    (h : DataW.trod enc P w 0 (fun _ => true) true fuel t cs = some x) :
    ∃ a len cap, cs = [.slice a len cap] ∧ IsRows ks w a len cap ∧ ((x.1 = .nil ∧ cap = 0) ∨ ∃ els sp, x.1 = .slice els sp ∧ els.length + sp.length = cap) := by
  rcases open_slice ht h with ⟨h0, hx⟩ | ⟨a, len, cap, m, n, D, Pl, hcs, hb, hle, hm, hmm, hx, hi⟩
  · exact ⟨_, _, _, h0, .inl ⟨rfl, rfl, rfl⟩, .inl ⟨by rw [hx], rfl⟩⟩
  · have hmc : m = cap := by simpa using hmm
    subst hmc
    obtain ⟨hlen, hget⟩ := lkAll_get ls ks hk
    refine ⟨_, _, _, hcs, .inr ⟨a, rfl, hle, hm, fun i him j k hj => ?_⟩, .inr ⟨_, _, by rw [hx], by simp; omega⟩⟩
    obtain ⟨cs', hc, ht'⟩ := hi i him
    obtain ⟨_, hcl, hat⟩ := World.cells?_some hc
    obtain ⟨tl, htl, hlk⟩ := hget j k hj
    have hjl : j < ls.length := by
      rcases Nat.lt_or_ge j ls.length with h1 | h1
      · exact h1
      · rw [List.getElem?_eq_none h1] at htl; cases htl
    have hjc : j < cs'.length := by omega
    have hv : cs'[j]? = some cs'[j] := List.getElem?_eq_getElem hjc
    obtain ⟨m', y, hy⟩ := trod_leaves 12 e ls hl _ _ _ ht' j tl _ htl hv
    refine ⟨_, ?_, lk_ok hlk hy⟩
    have hcell := hat j (by omega)
    rw [hv, Go.Deep.add_add, hC] at hcell
    rw [hlen]
    exact hcell
end
end Go.Proofs.YtocjapnagggapaaDoor
