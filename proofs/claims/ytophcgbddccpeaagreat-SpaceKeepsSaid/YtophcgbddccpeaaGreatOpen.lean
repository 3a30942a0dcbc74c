/- Opening arguments of any plain make: structs, arrays and their leaves. -/
import Derived.Test.YtophcgbddccpeaaGreatPlan
import Derived.ChangeArms
import Derived.WideShapes
import Derived.OpenShut
import Derived.ShutString
import Derived.ProofKit
namespace Go.Proofs.YtophcgbddccpeaaGreat
open Go.RowKit Go.ChangeShapes

def IsRow (k : IntKind) (w : World) (a : Option Addr) (len cap : Nat) (zs : List Int) : Prop :=
  (a = none ∧ len = 0 ∧ cap = 0 ∧ zs = []) ∨
  ∃ x, a = some x ∧ len ≤ cap ∧ cap ≤ maxLen ∧ zs.length = cap ∧ (∀ i, i < zs.length → w.cell? (x.add i) = some (.int k (zs.getD i 0))) ∧ ∀ n ∈ zs, (Lit.int k n).wf = true

theorem u8_of_wf {x : Int} (h : (Lit.int .u8 x).wf = true) : 0 ≤ x ∧ x < 256 := by
  simp [Lit.wf, IntKind.min, IntKind.max, IntKind.signed, IntKind.bits] at h
  omega
theorem u64_of_wf {x : Int} (h : (Lit.int .u64 x).wf = true) : 0 ≤ x ∧ x < 18446744073709551616 := by
  simp [Lit.wf, IntKind.min, IntKind.max, IntKind.signed, IntKind.bits] at h
  omega
theorem i64_of_wf {x : Int} (h : (Lit.int .i64 x).wf = true) : -9223372036854775808 ≤ x ∧ x < 9223372036854775808 := by
  simp [Lit.wf, IntKind.min, IntKind.max, IntKind.signed, IntKind.bits] at h
  omega

def leavesF (g : TypeId → Option (List TypeId)) (cells : TypeId → Nat) : List Field → List TypeId → Option (List TypeId)
  | [], acc => some acc
  | fd :: r, acc =>
    match g fd.type with
    | some l => if fd.offset = acc.length ∧ cells fd.type = l.length then leavesF g cells r (acc ++ l) else none
    | none => none
def leavesA (l : List TypeId) : Nat → List TypeId
  | 0 => []
  | n + 1 => leavesA l n ++ l
/-- The types of a value's cells, structs and arrays taken apart. -/
def leaves (P : Program) : Nat → TypeId → Option (List TypeId)
  | 0, _ => none
  | f + 1, t =>
    match P.underlying t with
    | some (.struct fs) => match leavesF (leaves P f) P.cellsOf fs.toList [] with
      | some ls => if P.cellsOf t = ls.length then some ls else none
      | none => none
    | some (.array n e) => match leaves P f e with
      | some l => if P.cellsOf e = l.length ∧ P.cellsOf t = n * l.length then some (leavesA l n) else none
      | none => none
    | some _ => if P.cellsOf t = 1 then some [t] else none
    | none => none

def Good (R : TypeId → Value → Prop) (ls : List TypeId) (cs : List Value) : Prop := ∀ (i : Nat) (tl : TypeId) (v : Value), ls[i]? = some tl → cs[i]? = some v → R tl v

theorem good_append {R : TypeId → Value → Prop} {a l : List TypeId} {cs : List Value} (ha : Good R a cs) (hl : Good R l ((cs.drop a.length).take l.length)) : Good R (a ++ l) cs := by
  intro i tl v h1 h2
  rcases Nat.lt_or_ge i a.length with h | h
  · rw [List.getElem?_append_left h] at h1; exact ha i tl v h1 h2
  · rw [List.getElem?_append_right h] at h1
    have hlt : i - a.length < l.length := by
      rcases Nat.lt_or_ge (i - a.length) l.length with h3 | h3
      · exact h3
      · rw [List.getElem?_eq_none h3] at h1; cases h1
    refine hl (i - a.length) tl v h1 ?_
    rw [List.getElem?_take, if_pos hlt, List.getElem?_drop, show a.length + (i - a.length) = i by omega]
    exact h2
theorem good_fields {R : TypeId → Value → Prop} {g : TypeId → Option (List TypeId)} {cells : TypeId → Nat} {cs : List Value} : ∀ (fs : List Field) (acc ls : List TypeId), leavesF g cells fs acc = some ls → Good R acc cs →
    (∀ fd ∈ fs, ∀ l, g fd.type = some l → Good R l ((cs.drop fd.offset).take (cells fd.type))) → Good R ls cs
  | [], acc, ls, h, ha, _ => by simp only [leavesF, Option.some.injEq] at h; subst h; exact ha
  | fd :: r, acc, ls, h, ha, hf => by
    simp only [leavesF] at h
    split at h
    · rename_i l hl
      split at h
      · rename_i hc
        obtain ⟨h1, h2⟩ := hc
        have := hf fd (by simp) l hl
        rw [h1, h2] at this
        exact good_fields r _ _ h (good_append ha this) (fun x hx => hf x (by simp [hx]))
      · cases h
    · cases h
theorem leavesA_length (l : List TypeId) : ∀ n, (leavesA l n).length = n * l.length
  | 0 => by simp [leavesA]
  | n + 1 => by simp [leavesA, leavesA_length l n, Nat.succ_mul]
theorem good_array {R : TypeId → Value → Prop} {l : List TypeId} {cs : List Value} : ∀ (n : Nat), (∀ i, i < n → Good R l ((cs.drop (i * l.length)).take l.length)) → Good R (leavesA l n) cs
  | 0, _ => fun i tl v h _ => by simp [leavesA] at h
  | n + 1, h => good_append (good_array n fun i hi => h i (by omega)) (by rw [leavesA_length]; exact h n (by omega))

section
variable {H : Type} {enc : TypeId × Value → H} {P : Program} {w : World} {base : Nat} {spare : Nat → Bool} {held : Bool}
theorem trod_one {n : Nat} {t : TypeId} {cs : List Value} {x : DataW H × List MemPlace} (h1 : ∀ fs, P.underlying t ≠ some (.struct fs)) (h2 : ∀ k e, P.underlying t ≠ some (.array k e)) (h : DataW.trod enc P w base spare held n t cs = some x) : ∃ c, cs = [c] := by
  cases n with
  | zero => simp [DataW.trod] at h
  | succ n =>
    unfold DataW.trod at h
    split at h
    all_goals first | exact ⟨_, rfl⟩ | (rename_i hh; exact absurd hh (h1 _)) | (rename_i hh; exact absurd hh (h2 _ _)) | cases h
theorem trod_leaves : ∀ (f : Nat) (t : TypeId) (ls : List TypeId), leaves P f t = some ls → ∀ (n : Nat) (cs : List Value) (x : DataW H × List MemPlace), DataW.trod enc P w base spare held n t cs = some x →
    Good (fun tl v => ∃ m y, DataW.trod enc P w base spare held m tl [v] = some y) ls cs
  | 0, _, _, h, _, _, _, _ => by simp [leaves] at h
  | f + 1, t, ls, h, n, cs, x, hx => by
    simp only [leaves] at h
    split at h
    · rename_i fs ht
      split at h
      · rename_i ls' hls
        split at h
        · injection h with h
          subst h
          obtain ⟨xs, m, _, _, hcl, hlen, hg⟩ := DataW.trod_struct ht hx
          refine good_fields _ _ _ hls (fun i tl v h => by simp at h) fun fd hfd l hl => ?_
          obtain ⟨i, hi, hfi⟩ := List.getElem_of_mem hfd
          have hi2 : i < fs.size := by simpa using hi
          have hfi' : fs[i]? = some fd := by rw [Array.getElem?_eq_getElem hi2, ← hfi]; simp
          have h1 := hg i fd hfi'
          rw [List.getElem?_eq_getElem (by omega)] at h1
          exact trod_leaves f _ _ hl _ _ _ h1
        · cases h
      · cases h
    · rename_i k e ht
      split at h
      · rename_i l hl
        split at h
        · rename_i hc
          injection h with h
          subst h
          obtain ⟨xs, m, _, _, hcl, hlen, hg⟩ := DataW.trod_array ht hx
          refine good_array _ fun i hi => ?_
          have h1 := hg i hi
          rw [List.getElem?_eq_getElem (by omega), hc.1] at h1
          exact trod_leaves f _ _ hl _ _ _ h1
        · cases h
      · cases h
    · split at h
      · injection h with h
        subst h
        intro i tl v h1 h2
        match i, h1 with
        | 0, h1 =>
          simp at h1
          subst h1
          rename_i d h3 h4 hu hz
          obtain ⟨c, rfl⟩ := trod_one (fun fs hh => h3 fs (Option.some.inj (hu.symm.trans hh))) (fun k e hh => h4 k e (Option.some.inj (hu.symm.trans hh))) hx
          simp at h2
          subst h2
          exact ⟨_, _, hx⟩
        | i + 1, h1 => simp at h1
      · cases h
    · cases h
end
/-- A struct or an array that came in is its row of cells. -/
theorem okWide_row {P : Program} {w : World} {r : Reach} {b0 : Nat} {t : TypeId} {v : Value} (ht : (∃ fs, P.underlying t = some (.struct fs)) ∨ ∃ n e, P.underlying t = some (.array n e)) (h : Value.okWide P w r b0 t v) : ∃ cs, v = .agg cs ∧ cs.size = P.cellsOf t := by
  rcases ht with ⟨fs, ht⟩ | ⟨n, e, ht⟩ <;> (simp only [Value.okWide, ht] at h; obtain ⟨cs, h1, h2, _⟩ := h; exact ⟨cs, h1, h2⟩)
theorem cells_agg (cs : Array Value) : (Value.agg cs).cells.toList = cs.toList := rfl
end Go.Proofs.YtophcgbddccpeaaGreat
