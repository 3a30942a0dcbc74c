/- hurt: a parcel's bytes are others. -/
import Derived.Test.YtnnajaomajgoeaaNetH
namespace Go.Proofs.Ytnnajaomajgoeaa
open Go.RowKit Go.ChangeShapes

/-- A bag laid open at one parcel. -/
structure BagOpen (W : World) (gb : Nat) (L : List (Pc × Value)) (lost : Int) (F : Nat → Prop) (k : Nat) (p : Pc) (u : Value) (g cap : Nat) (cur : Array Value) : Prop where
  lt : k < L.length
  bag : Blk W gb 63 #[.slice (some ⟨g, 0, none⟩) L.length cap, .int .i64 lost]
  row : Blk W g 37 cur
  len : L.length ≤ cap
  max : cap ≤ maxLen
  size : cur.size = cap * 4
  take : cur.toList.take (L.length * 4) = pcC L
  self : F g
  far : ∀ x ∈ L, x.2.ownBlock ≠ some g
  ne : gb ≠ g
  c0 : W.cell? ⟨g, k * 4, none⟩ = some (.int .i64 p.src)
  c1 : W.cell? ⟨g, k * 4 + 1, none⟩ = some (.int .i64 p.dst)
  c2 : W.cell? ⟨g, k * 4 + 2, none⟩ = some u
  c3 : W.cell? ⟨g, k * 4 + 3, none⟩ = some (.bool p.hurt)
theorem BagAt.opened {W : World} {gb : Nat} {L : List (Pc × Value)} {lost : Int} {F : Nat → Prop} {k : Nat} {p : Pc} {u : Value} (h : BagAt W gb L lost F) (hx : L[k]? = some (p, u)) : ∃ g cap cur, BagOpen W gb L lost F k p u g cap cur := by
  have hk := (List.getElem?_eq_some_iff.1 hx).1
  obtain ⟨v, h1, h2, h3⟩ := h.own
  have hv := row_ne_blk h2 h1 (by decide)
  rcases h2.2 with ⟨rfl, h0⟩ | ⟨g, cap, cur, rfl, _, hg, hcap, hm, hs, hl⟩
  · omega
  have hgb : Blk W g 37 cur := hg
  exact ⟨g, cap, cur, hk, h1, hg, hcap, hm, hs, hl, (h3 g rfl).1, (h3 g rfl).2, fun e => hv (by rw [e]; rfl), (hgb.cell _).trans (pcC_cell hl hx 0 (by decide)), (hgb.cell _).trans (pcC_cell hl hx 1 (by decide)), (hgb.cell _).trans (pcC_cell hl hx 2 (by decide)), (hgb.cell _).trans (pcC_cell hl hx 3 (by decide))⟩
theorem pcC_set : ∀ (L : List (Pc × Value)) (k : Nat) (p : Pc) (u u' : Value) (l' : List Nat), L[k]? = some (p, u) → ((pcC L).set (k * 4 + 2) u').set (k * 4 + 3) (.bool true) = pcC (L.set k (⟨p.src, p.dst, l', true⟩, u'))
  | [], k, p, u, u', l', e => by simp at e
  | x :: r, 0, p, u, u', l', e => by
    simp at e
    subst e
    rfl
  | x :: r, k + 1, p, u, u', l', e => by
    show ((pcV x ++ pcC r).set ((k + 1) * 4 + 2) u').set ((k + 1) * 4 + 3) (.bool true) = pcV x ++ pcC (r.set k _)
    have hl : (pcV x).length = 4 := rfl
    rw [List.set_append_right _ _ (by omega), List.set_append_right _ _ (by omega), hl, show (k + 1) * 4 + 2 - 4 = k * 4 + 2 by omega, show (k + 1) * 4 + 3 - 4 = k * 4 + 3 by omega, pcC_set r k p u u' l' (by simpa using e)]
theorem set_take {xs : List Value} {n j : Nat} {v : Value} (h : j < n) : (xs.set j v).take n = (xs.take n).set j v := by
  rw [List.take_set]
set_option maxHeartbeats 1000000 in
theorem hurt_any (gb g m cap k : Nat) (V u : Value) (b : Bool) (hV : V.oneCell' = true) (W : World) (hk : k < m) (hc : W.cell? ⟨gb, 0, none⟩ = some (.slice (some ⟨g, 0, none⟩) m cap)) (hne : gb ≠ g)
    (c2 : W.cell? ⟨g, k * 4 + 2, none⟩ = some u) (c3 : W.cell? ⟨g, k * 4 + 3, none⟩ = some (.bool b)) (f2 : ∀ i, W.frozen? ⟨g, i, none⟩ = false) (A : Option Addr) (mV cV : Nat) (eV : V = .slice A mV cV) :
    Calls Try.prog 30 #[.pointer (some ⟨gb, 0, none⟩), .int .i64 (k : Int), V] W fun e w' => e = .returned (.bool true) ∧ (W.drew.setCell ⟨g, k * 4 + 2, none⟩ V).setCell ⟨g, k * 4 + 3, none⟩ (.bool true) = w' := by
  subst eV
  have hlt := cell_lt hc
  have hltg := cell_lt c2
  have hkI : (k : Int) < (m : Int) := by omega
  have hkI0 : (0 : Int) ≤ (k : Int) := by omega
  have F2 := f2 (k * 4 + 2)
  have F3 := f2 (k * 4 + 3)
  have s0 : ∀ W' : World, W'.heap[gb]? = W.drew.heap[gb]? → W'.cell? ⟨gb, 0, none⟩ = some (.slice (some ⟨g, 0, none⟩) m cap) := fun W' h => (World.cell?_of_block (a := ⟨gb, 0, none⟩) h).trans hc
  clear f2 hc
  go_enter Try.func30, Try.ntmps30
  go_wp2_with fail
  refine wp_region_plan_by (fun u u' => u'.heap[gb]? = u.heap[gb]?) ⟨fun _ => rfl, fun h k => k.trans h⟩ [(0, false), (1, false), (2, false), (3, false), (4, false), (5, false), (6, false), (7, false), (8, false), (9, false), (10, false), (11, false), (12, false), (13, true), (14, false), (15, false), (16, true)] (by kernel_rfl) (by kernel_rfl) (fun _ d _ _ _ h => by cases d <;> exact h) ?_
  iterate 13 (refine plan_take (v := ?_) rfl (by kernel_rfl) ?_ ?_; rotate_left; (focus (intro w' hw'; try go_simp; try with_reducible rfl)); simp only [Act.put, List.setIfInBounds_toArray, List.set_cons_zero, List.set_cons_succ])
  refine plan_turn rfl (by kernel_rfl) (fun K hK => ?_)
  go_simp
  refine hK _ _ ⟨Below.heap_setCell W.drew _ _ gb hne, ?_⟩
  clear hK K
  iterate 2 (refine plan_take (v := ?_) rfl (by kernel_rfl) ?_ ?_; rotate_left; (focus (intro w' hw'; try go_simp; try with_reducible rfl)); simp only [Act.put, List.setIfInBounds_toArray, List.set_cons_zero, List.set_cons_succ])
  refine plan_turn rfl (by kernel_rfl) (fun K hK => ?_)
  go_simp
  refine hK _ _ ⟨Below.heap_setCell _ _ _ gb hne, ?_⟩
  clear hK K
  refine plan_end ?_
  go_wp2_with fail
  go_ret
  exact ⟨rfl, rfl⟩
end Go.Proofs.Ytnnajaomajgoeaa
