/- Sets of numbers as maps: the laws for the walk. -/
import Derived.Test.YtihmeehcjdgfgaaSep
namespace Go.Proofs.Ytihmeehcjdgfgaa
open Go.RowKit Go.Maps

/-- Block b is a map that holds true at just the numbers of L. -/
def BSet (w : World) (b : Nat) (L : List Int) : Prop := L.Nodup ∧ ∃ D : DataW Unit, w.ownsMap Try.prog 3 (plainElem Try.prog 4) b L.length D ∧ Maps.size D = L.length ∧
  ∀ f, (Lit.int .i64 f).wf = true → D.atKey (.int .i64 f) (.lit (.bool false)) = .lit (.bool (decide (f ∈ L))) ∧ Maps.has D (.int .i64 f) = decide (f ∈ L)
theorem law : Keyed Try.prog 3 := int_keyed Try.underlying3
theorem zeroB (w : World) : (zeroValue 4).run Try.prog w = .ok (.bool false) w := by kernel_rfl
theorem elemB (x : Bool) : plainElem (H := Unit) Try.prog 4 (.bool x) = some (.lit (.bool x), []) := plainElem_bool Try.underlying4 x
theorem keyI {f : Int} (h : (Lit.int .i64 f).wf = true) : keyOf Try.prog 3 (.int .i64 f) = some (.int .i64 f) := keyOf_int_mk Try.underlying3 h
theorem elemB_inv {v : Value} {y : Bool} {ps : List MemPlace} (h : plainElem (H := Unit) Try.prog 4 v = some (.lit (.bool y), ps)) : v = .bool y := by
  unfold plainElem at h
  cases v <;> simp_all [Try.underlying4]
theorem BSet.lt {w : World} {b : Nat} {L : List Int} (h : BSet w b L) : b < w.heap.size := by
  obtain ⟨_, D, h, _⟩ := h; exact h.lt
theorem BSet.keep {w w' : World} {b : Nat} {L : List Int} {row : Option Nat} (h : BSet w b L) (hg : w.grownBy w' row) (hne : some b ≠ row) : BSet w' b L := by
  obtain ⟨hn, D, h, r⟩ := h; exact ⟨hn, D, h.kept hg hne, r⟩
theorem BSet.keeps {w w' : World} {b : Nat} {L : List Int} {F : Nat → Prop} (h : BSet w b L) (hg : Keeps F w w') (hne : ¬ F b) : BSet w' b L := by
  obtain ⟨hn, D, h, r⟩ := h; exact ⟨hn, D, hg.map h hne, r⟩
theorem BSet.look {w : World} {b : Nat} {L : List Int} (h : BSet w b L) {f : Int} (hf : (Lit.int .i64 f).wf = true) :
    (Instr.lookup 44 (.map (some b)) (.int .i64 f) false).run Try.prog w = .ok (.bool (decide (f ∈ L))) w := by
  obtain ⟨_, D, h, _, hD⟩ := h
  obtain ⟨v, ps, hrun, hv⟩ := h.lookup law Try.underlying44 (zeroB w) (elemB false) (keyI hf)
  rw [(hD f hf).1] at hv
  rw [hrun, elemB_inv hv]
theorem BSet.len {w : World} {b : Nat} {L : List Int} (h : BSet w b L) (ty : TypeId) :
    (Builtin.len_ #[44] ty #[.map (some b)]).run Try.prog w = .ok (.int .i64 (L.length : Int)) w := by
  obtain ⟨_, D, h, hs, _⟩ := h
  have := h.len (ty := ty) Try.underlying44
  rw [hs] at this
  exact this
theorem ownsMap_size {w : World} {b n : Nat} {D : DataW Unit} (h : w.ownsMap Try.prog 3 (plainElem Try.prog 4) b n D) : w.ownsMap Try.prog 3 (plainElem Try.prog 4) b (Maps.size D) D := by
  obtain ⟨es, clock, hb, F, hs, rfl⟩ := h
  exact ⟨es, clock, hb, F, by simp [Maps.size, length_sorted], rfl⟩
theorem isKeyI (f : Int) : WideAt.IsKeyLit (.int .i64 f) := by simp [WideAt.IsKeyLit]
theorem BSet.new (w : World) : BSet (w.alloc (.map #[] 0)) w.heap.size [] :=
  ⟨by simp, .map [], World.ownsMap_made _ _ _ _, rfl, fun f _ => ⟨by simp [DataW.atKey], by simp [Maps.has]⟩⟩
theorem BSet.put {w : World} {b : Nat} {L : List Int} (h : BSet w b L) {f : Int} (hf : (Lit.int .i64 f).wf = true) (hL : f ∉ L) (hm : L.length < maxLen) :
    ∃ w', (Instr.mapUpdate 44 (.map (some b)) (.int .i64 f) (.bool true)).run Try.prog w = .ok () w' ∧ BSet w' b (f :: L) ∧ w.grownBy w' (some b) := by
  obtain ⟨hn, D, h, hs, hD⟩ := h
  obtain ⟨w', hrun, h', hg⟩ := h.update law Try.underlying44 hm (keyI hf) (elemB true)
  have hsz : Maps.size (D.put (.int .i64 f) (.lit (.bool true))) = (f :: L).length := by
    rw [Maps.size_put (h.tidy law), (hD f hf).2, hs]
    simp [hL]
  refine ⟨w', hrun, ⟨List.nodup_cons.2 ⟨hL, hn⟩, _, by rw [← hsz]; exact ownsMap_size h', hsz, fun g hg' => ?_⟩, hg⟩
  by_cases e : g = f
  · subst e
    rw [Maps.atKey_put_same h.isMap (isKeyI _), Maps.has_put_same h.isMap (isKeyI _)]
    simp
  · have hne : (Lit.int .i64 g) ≠ .int .i64 f := by intro h; injection h with _ h; exact e h
    rw [Maps.atKey_put_other hne, Maps.has_put_other hne, (hD g hg').1, (hD g hg').2]
    simp [e]
theorem BSet.del {w : World} {b : Nat} {L : List Int} (h : BSet w b L) {f : Int} (hf : (Lit.int .i64 f).wf = true) (hL : f ∈ L) (ty : TypeId) :
    ∃ w', (Builtin.delete_ #[44, 3] ty #[.map (some b), .int .i64 f]).run Try.prog w = .ok (.tuple #[]) w' ∧ BSet w' b (L.erase f) ∧ w.grownBy w' (some b) := by
  obtain ⟨hn, D, h, hs, hD⟩ := h
  obtain ⟨w', hrun, h', hg⟩ := h.drop law Try.underlying44 (keyI hf) ty
  have hsz : Maps.size (D.del (.int .i64 f)) = (L.erase f).length := by
    have := Maps.size_del (k := .int .i64 f) (h.tidy law)
    rw [(hD f hf).2, hs] at this
    rw [List.length_erase_of_mem hL]
    simp [hL] at this
    omega
  refine ⟨w', hrun, ⟨hn.erase f, _, by rw [← hsz]; exact ownsMap_size h', hsz, fun g hg' => ?_⟩, hg.grown⟩
  by_cases e : g = f
  · subst e
    rw [Maps.atKey_del_same, Maps.has_del_same]
    simp [hn.mem_erase_iff]
  · have hne : (Lit.int .i64 g) ≠ .int .i64 f := by intro h; injection h with _ h; exact e h
    rw [Maps.atKey_del_other hne, Maps.has_del_other hne, (hD g hg').1, (hD g hg').2]
    simp [hn.mem_erase_iff, e]
section
variable {ops : Array Oper} {rest : List Oper} {o : Oper} {a : Act} {Q : Exit → Act → World → Prop}
theorem wpList_bput (w : World) (hg : o.guard = none) (m x v : Operand) (hop : o.op = Op.mapUpdate 44 m x v) (b : Nat) (L : List Int) (f : Int)
    (hm : a.eval m = .map (some b)) (hx : a.eval x = .int .i64 f) (hv : a.eval v = .bool true) (h : BSet w b L) (hf : (Lit.int .i64 f).wf = true) (hL : f ∉ L) (hmax : L.length < maxLen)
    (hK : ∀ w', BSet w' b (f :: L) → w.grownBy w' (some b) → wpList Try.prog ops Q rest (a.put o.dst undef) w') : wpList Try.prog ops Q (o :: rest) a w := by
  refine wpList_plain hg fun K' hK' => ?_
  obtain ⟨w', hrun, r1, r2⟩ := h.put hf hL hmax
  unfold Oper.wp
  simp [execOp, hop, hm, hx, hv, hrun, Result.andThen]
  exact hK' _ _ (hK w' r1 r2)
end
end Go.Proofs.Ytihmeehcjdgfgaa
