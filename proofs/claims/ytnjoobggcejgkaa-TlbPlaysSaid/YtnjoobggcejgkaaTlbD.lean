/- Buffers in memory; set. -/
import Derived.Test.YtnjoobggcejgkaaTlbC
namespace Go.Proofs.Ytnjoobggcejgkaa
open Go.RowKit

def waysC : List En → List Value
  | [] => []
  | e :: r => e.vs ++ waysC r
theorem vs_length (e : En) : e.vs.length = 15 := rfl
theorem waysC_length : ∀ l : List En, (waysC l).length = l.length * 15
  | [] => rfl
  | e :: r => by
    show (e.vs ++ waysC r).length = _
    rw [List.length_append, vs_length, waysC_length r, List.length_cons]
    omega
theorem waysC_get : ∀ (l : List En) (k j : Nat) (e : En), l[k]? = some e → j < 15 → (waysC l)[k * 15 + j]? = e.vs[j]?
  | [], k, j, e, h, _ => by simp at h
  | x :: r, 0, j, e, h, hj => by
    simp at h
    subst h
    show (x.vs ++ waysC r)[0 * 15 + j]? = _
    rw [Nat.zero_mul, Nat.zero_add, List.getElem?_append_left (by rw [vs_length]; exact hj)]
  | x :: r, k + 1, j, e, h, hj => by
    show (x.vs ++ waysC r)[(k + 1) * 15 + j]? = _
    rw [List.getElem?_append_right (by rw [vs_length]; omega), vs_length, show (k + 1) * 15 + j - 15 = k * 15 + j by omega]
    exact waysC_get r k j e (by simpa using h) hj
/-- A buffer: its sets' row in block gs, set i's ways in block G i. -/
structure BufAt (w : World) (g gs : Nat) (G : Nat → Nat) (T : List (List En)) (m : Nat) : Prop where
  head : ∃ c, Blk w g 54 #[.slice (some ⟨gs, 0, none⟩) T.length c]
  outer : ∃ cur, Blk w gs 55 cur ∧ ∀ i, i < T.length → cur[i]? = some (.slice (some ⟨G i, 0, none⟩) m m)
  ways : ∀ i, i < T.length → (T.getD i []).length = m
  inner : ∀ i, i < T.length → Blk w (G i) 59 (waysC (T.getD i [])).toArray
  inj : ∀ i j, i < T.length → j < T.length → G i = G j → i = j
/-- The blocks of a buffer. -/
def bufF (g gs : Nat) (G : Nat → Nat) (n : Nat) (k : Nat) : Prop := k = g ∨ k = gs ∨ ∃ i, i < n ∧ k = G i
section
variable {w w' : World} {g gs : Nat} {G : Nat → Nat} {T : List (List En)} {m : Nat}
theorem BufAt.move (h : BufAt w g gs G T m) (hk : ∀ k, k < w.heap.size → bufF g gs G T.length k → w'.heap[k]? = w.heap[k]?) : BufAt w' g gs G T m := by
  obtain ⟨c, hc⟩ := h.head
  obtain ⟨cur, ho, hcur⟩ := h.outer
  exact ⟨⟨c, (hk g hc.lt (.inl rfl)).trans hc⟩, ⟨cur, (hk gs ho.lt (.inr (.inl rfl))).trans ho, hcur⟩, h.ways, fun i hi => (hk (G i) (h.inner i hi).lt (.inr (.inr ⟨i, hi, rfl⟩))).trans (h.inner i hi), h.inj⟩
theorem BufAt.below (h : BufAt w g gs G T m) (hb : Below w.heap.size w w') : BufAt w' g gs G T m := h.move fun k hk _ => hb.block k hk
theorem BufAt.drew (h : BufAt w g gs G T m) : BufAt w.drew g gs G T m := h.move fun _ _ _ => rfl
theorem BufAt.cell (h : BufAt w g gs G T m) {i : Nat} (hi : i < T.length) (k j : Nat) (e : En) (hk : (T.getD i [])[k]? = some e) (hj : j < 15) : w.cell? ⟨G i, k * 15 + j, none⟩ = e.vs[j]? := by
  rw [(h.inner i hi).cell, List.getElem?_toArray, waysC_get _ _ _ _ hk hj]
end
set_option maxHeartbeats 1000000 in
theorem set_any (g gs : Nat) (G : Nat → Nat) (T : List (List En)) (m : Nat) (p : Nat) (W : World) (hp : p < 18446744073709551616) (hn : 0 < T.length) (hn2 : T.length ≤ 64) (hB : BufAt W g gs G T m) :
    Calls Try.prog 18 #[.pointer (some ⟨g, 0, none⟩), .int .u64 p] W fun e w' => e = .returned (.slice (some ⟨G (p % T.length), 0, none⟩) m m) ∧ W.drew = w' := by
  obtain ⟨c, hc⟩ := hB.head
  obtain ⟨cur, ho, hcur⟩ := hB.outer
  have hlt : p % T.length < T.length := Nat.mod_lt _ hn
  have hi := hcur _ hlt
  have HC := Lib.hid hc
  have HO := Lib.hid ho
  have HI := Lib.hid hi
  have hlt2 : p % T.length < 64 := by omega
  generalize hq : p % T.length = q at *
  generalize hn' : T.length = n at *
  have hpq : (p : Int).tmod (n : Int) = (q : Int) := by
    rw [Int.tmod_eq_emod_of_nonneg (by omega), ← hq]
    simp
  have hw : IntKind.u64.wrap (n : Int) = (n : Int) := by rw [IntKind.wrap_u64]; omega
  have hn0 : ¬ (n : Int) = 0 := by omega
  have hn0' : ¬ n = 0 := by omega
  have hql : (q : Int) < (n : Int) := by omega
  clear hc ho hcur hi hB hq hn'
  go_enter Try.func18, Try.ntmps18
  go_wp2_with fail
  have s0 := fun W' (h : Ext W.drew W') => (h.cell (p := ⟨g, 0, none⟩) HC.out.lt).trans (HC.out.cell 0)
  have s1 := fun W' (h : Ext W.drew W') => (h.cell (p := ⟨gs, q, none⟩) HO.out.lt).trans ((HO.out.cell q).trans HI.out)
  simp at s0
  refine wp_region_plan [(0, false), (1, false), (2, false), (3, false), (4, false), (5, false), (6, false), (7, false), (8, false), (9, false), (10, false), (11, false), (12, false), (13, false), (14, false)] (by kernel_rfl) (by kernel_rfl) (fun _ d _ _ _ h => by cases d <;> exact h) ?_
  iterate 15 (refine plan_take (v := ?_) rfl (by kernel_rfl) ?_ ?_; rotate_left; (focus (intro w' hw'; try go_simp; try with_reducible rfl)); simp only [Act.put, List.setIfInBounds_toArray, List.set_cons_zero, List.set_cons_succ])
  refine plan_end ?_
  clear s0 s1
  go_wp2
  go_ret
  exact ⟨rfl, rfl⟩
end Go.Proofs.Ytnjoobggcejgkaa
