/- A map of pages: pointers by numbers. -/
import Derived.Test.YtmnpakfihfjfiaaWordF
import Derived.Test.YtmnpakfihfjfiaaWordF
import Derived.Test.YtmnpakfihfjfiaaWide
namespace Go.Proofs.Ytmnpakfihfjfiaa
open Go.RowKit Go.Maps

/-- How a pointer reads: by its block's number. -/
def ptrR (v : Value) : Option (DataW Unit × List MemPlace) :=
  match v with
  | .pointer none => some (.lit (.bool false), [])
  | .pointer (some ⟨b, 0, none⟩) => some (.lit (.int .i64 (b : Int)), [])
  | _ => none
def ptrV : Option Nat → Value
  | none => .pointer none
  | some b => .pointer (some ⟨b, 0, none⟩)
def ptrD : Option Nat → DataW Unit
  | none => .lit (.bool false)
  | some b => .lit (.int .i64 (b : Int))
theorem ptrR_V (o : Option Nat) : ptrR (ptrV o) = some (ptrD o, []) := by cases o <;> rfl
theorem ptrR_inv {v : Value} {o : Option Nat} {ps : List MemPlace} (h : ptrR v = some (ptrD o, ps)) : v = ptrV o := by
  unfold ptrR at h
  split at h
  · cases o
    · rfl
    · simp [ptrD] at h
  · rename_i b
    cases o with
    | none => simp [ptrD] at h
    | some c =>
      simp [ptrD] at h
      have : b = c := by have := h.1; omega
      subst this; rfl
  · cases h
theorem lawI : Keyed Try.prog 3 := int_keyed Try.underlying3
theorem zeroP (w : World) : (zeroValue 79).run Try.prog w = .ok (.pointer none) w := by kernel_rfl
theorem keyI {f : Int} (h : (Lit.int .i64 f).wf = true) : keyOf Try.prog 3 (.int .i64 f) = some (.int .i64 f) := keyOf_int_mk Try.underlying3 h
theorem isKeyI (f : Int) : WideAt.IsKeyLit (.int .i64 f) := by simp [WideAt.IsKeyLit]
theorem wfN {k : Nat} (h : k < 9223372036854775808) : (Lit.int .i64 (k : Int)).wf = true := by
  simp [Lit.wf, IntKind.min, IntKind.max, IntKind.signed, IntKind.bits]
  omega
/-- Block b is a map that holds a pointer to the block loc k at each number k of K, and nothing else. -/
def PMap (w : World) (b : Nat) (K : List Nat) (loc : Nat → Nat) : Prop := ∃ D : DataW Unit, w.ownsMap Try.prog 3 ptrR b K.length D ∧
  ∀ k : Nat, k < 9223372036854775808 → D.atKey (.int .i64 (k : Int)) (.lit (.bool false)) = ptrD (if k ∈ K then some (loc k) else none)
theorem PMap.lt {w : World} {b : Nat} {K : List Nat} {loc : Nat → Nat} (h : PMap w b K loc) : b < w.heap.size := by
  obtain ⟨D, h, _⟩ := h; exact h.lt
theorem PMap.keep {w w' : World} {b : Nat} {K : List Nat} {loc : Nat → Nat} {row : Option Nat} (h : PMap w b K loc) (hg : w.grownBy w' row) (hne : some b ≠ row) : PMap w' b K loc := by
  obtain ⟨D, h, r⟩ := h; exact ⟨D, h.kept hg hne, r⟩
theorem PMap.keeps {w w' : World} {b : Nat} {K : List Nat} {loc : Nat → Nat} {F : Nat → Prop} (h : PMap w b K loc) (hg : Keeps F w w') (hne : ¬ F b) : PMap w' b K loc := by
  obtain ⟨D, h, r⟩ := h; exact ⟨D, hg.map h hne, r⟩
theorem PMap.look {w : World} {b : Nat} {K : List Nat} {loc : Nat → Nat} (h : PMap w b K loc) {k : Nat} (hk : k < 9223372036854775808) :
    (Instr.lookup 73 (.map (some b)) (.int .i64 (k : Int)) false).run Try.prog w = .ok (ptrV (if k ∈ K then some (loc k) else none)) w := by
  obtain ⟨D, h, hD⟩ := h
  obtain ⟨v, ps, hrun, hv⟩ := h.lookup lawI Try.underlying73 (zeroP w) (ptrR_V none) (keyI (wfN hk))
  rw [show ptrD none = .lit (.bool false) from rfl, hD k hk] at hv
  rw [hrun, ptrR_inv hv]
theorem PMap.new (w : World) (loc : Nat → Nat) : PMap (w.alloc (.map #[] 0)) w.heap.size [] loc :=
  ⟨.map [], World.ownsMap_made _ _ _ _, fun k hk => by simp [DataW.atKey, ptrD]⟩
theorem PMap.put {w : World} {b : Nat} {K : List Nat} {loc : Nat → Nat} (h : PMap w b K loc) {k p : Nat} (hk : k < 9223372036854775808) (hm : K.length < maxLen) :
    ∃ w', (Instr.mapUpdate 73 (.map (some b)) (.int .i64 (k : Int)) (ptrV (some p))).run Try.prog w = .ok () w' ∧ PMap w' b (k :: K) (fun j => if j = k then p else loc j) ∧ w.grownBy w' (some b) := by
  obtain ⟨D, h, hD⟩ := h
  obtain ⟨w', hrun, h', hg⟩ := h.update lawI Try.underlying73 hm (keyI (wfN hk)) (ptrR_V (some p))
  refine ⟨w', hrun, ⟨_, h', fun j hj => ?_⟩, hg⟩
  by_cases e : j = k
  · subst e
    rw [Maps.atKey_put_same h.isMap (isKeyI _)]
    simp
  · have hne : (Lit.int .i64 (j : Int)) ≠ .int .i64 (k : Int) := by intro h; injection h with _ h; exact e (by omega)
    rw [Maps.atKey_put_other hne, hD j hj]
    simp [e]
section
variable {ops : Array Oper} {rest : List Oper} {o : Oper} {a : Act} {Q : Exit → Act → World → Prop}
theorem wpList_pput (w : World) (hg : o.guard = none) (m x v : Operand) (hop : o.op = Op.mapUpdate 73 m x v) (b : Nat) (K : List Nat) (loc : Nat → Nat) (k p : Nat)
    (hm : a.eval m = .map (some b)) (hx : a.eval x = .int .i64 (k : Int)) (hv : a.eval v = .pointer (some ⟨p, 0, none⟩)) (h : PMap w b K loc) (hk : k < 9223372036854775808) (hmax : K.length < maxLen)
    (hK : ∀ w', PMap w' b (k :: K) (fun j => if j = k then p else loc j) → w.grownBy w' (some b) → wpList Try.prog ops Q rest (a.put o.dst undef) w') : wpList Try.prog ops Q (o :: rest) a w := by
  refine wpList_plain hg fun K' hK' => ?_
  obtain ⟨w', hrun, r1, r2⟩ := h.put (p := p) hk hmax
  unfold Oper.wp
  simp [execOp, hop, hm, hx, hv, ptrV, Result.andThen] at hrun ⊢
  rw [hrun]
  exact hK' _ _ (hK w' r1 r2)
end
theorem nodup_len : ∀ (n : Nat) (K : List Nat), K.Nodup → (∀ k ∈ K, k < n) → K.length ≤ n
  | 0, K, _, h => by
    cases K with
    | nil => simp
    | cons k K => exact absurd (h k (by simp)) (by omega)
  | n + 1, K, hn, h => by
    by_cases hm : n ∈ K
    · have h1 := nodup_len n (K.erase n) (hn.erase n) (fun k hk => by
        have h2 := (hn.mem_erase_iff).1 hk
        have := h k h2.2
        omega)
      rw [List.length_erase_of_mem hm] at h1
      omega
    · have h1 := nodup_len n K hn (fun k hk => by
        have := h k hk
        have : k ≠ n := fun e => hm (by rw [← e]; exact hk)
        omega)
      omega
end Go.Proofs.Ytmnpakfihfjfiaa
