/- SchedRandoms. -/
import Derived.Test.YtkiicgdfibncfaaSchP
namespace Go.Proofs.Ytkiicgdfibncfaa
open Go.RowKit Go.ChangeShapes

theorem random_any (seed nodes n : Int) (ws : List Int) (h7 : ws.length = 7) (W : World) :
    Calls Try.prog 17 #[.int .u64 seed, .int .i64 nodes, .int .i64 n, wV ws] W fun e w' => ∃ v, e = .returned v ∧ ∃ l, OwnA W.heap.size w' v l ∧ Below W.heap.size W w' ∧ ((¬ okR nodes n ws ∧ l = []) ∨ (okR nodes n ws ∧ (l.length : Int) = n ∧ ∃ s, RandL nodes ws seed l s)) := by
  by_cases h : okR nodes n ws
  · obtain ⟨m, rfl⟩ : ∃ m : Nat, n = m := ⟨n.toNat, by have := h.2.2.1; omega⟩
    refine (random_yes seed nodes m ws h7 W h).mono ?_
    rintro e w' ⟨v, rfl, l, s, hl, hr, ho, hb⟩
    exact ⟨v, rfl, l, ho, hb, .inr ⟨h, by rw [hl], s, hr⟩⟩
  · refine (random_no seed nodes n ws h7 W h).mono ?_
    rintro e w' ⟨rfl, hb⟩
    exact ⟨_, rfl, [], World.ownsRow_nil _ _ _ _, hb, .inl ⟨h, rfl⟩⟩
theorem rrandom_any (seed nodes n : Int) (ws : List Int) (h7 : ws.length = 7) (W : World) :
    Calls Try.prog 18 #[.int .u64 seed, .int .i64 nodes, .int .i64 n, wV ws] W fun e w' => ∃ v, e = .returned v ∧ ∃ l, OwnA W.heap.size w' v l ∧ Below W.heap.size W w' ∧ ((¬ okR nodes n ws ∧ l = []) ∨ (okR nodes n ws ∧ (l.length : Int) = n ∧ ∃ s, RandL nodes ws seed l s)) := by
  by_cases h : okR nodes n ws
  · obtain ⟨m, rfl⟩ : ∃ m : Nat, n = m := ⟨n.toNat, by have := h.2.2.1; omega⟩
    refine (rrandom_yes seed nodes m ws h7 W h).mono ?_
    rintro e w' ⟨v, rfl, l, s, hl, hr, ho, hb⟩
    exact ⟨v, rfl, l, ho, hb, .inr ⟨h, by rw [hl], s, hr⟩⟩
  · refine (rrandom_no seed nodes n ws h7 W h).mono ?_
    rintro e w' ⟨rfl, hb⟩
    exact ⟨_, rfl, [], World.ownsRow_nil _ _ _ _, hb, .inl ⟨h, rfl⟩⟩
theorem rand_eq {nodes n seed : Int} {ws : List Int} (h7 : ws.length = 7) {l l' : List A3} (h : (¬ okR nodes n ws ∧ l = []) ∨ (okR nodes n ws ∧ (l.length : Int) = n ∧ ∃ s, RandL nodes ws seed l s))
    (h' : (¬ okR nodes n ws ∧ l' = []) ∨ (okR nodes n ws ∧ (l'.length : Int) = n ∧ ∃ s, RandL nodes ws seed l' s)) : l = l' := by
  rcases h with ⟨h1, rfl⟩ | ⟨h1, h2, s, h3⟩
  · rcases h' with ⟨_, rfl⟩ | ⟨h4, _⟩
    · rfl
    · exact absurd h4 h1
  · rcases h' with ⟨h4, _⟩ | ⟨h4, h5, s', h6⟩
    · exact absurd h1 h4
    · exact (h3.one h7 h1.1 h6 (by omega)).1
theorem rand_len {nodes n seed : Int} {ws : List Int} {l : List A3} (h : (¬ okR nodes n ws ∧ l = []) ∨ (okR nodes n ws ∧ (l.length : Int) = n ∧ ∃ s, RandL nodes ws seed l s)) : l.length ≤ 1000000000 := by
  rcases h with ⟨_, rfl⟩ | ⟨h1, h2, _⟩
  · simp
  · have := h1.2.2.2.1; omega
set_option maxHeartbeats 4000000 in
theorem Law.SchedRandoms (seed nodes n x0 x1 x2 x3 x4 x5 x6 : Int) (W : World) (_ : (Lit.int .u64 seed).wf = true) (_ : (Lit.int .i64 nodes).wf = true) (_ : (Lit.int .i64 n).wf = true)
    (_ : (Lit.int .i64 x0).wf = true) (_ : (Lit.int .i64 x1).wf = true) (_ : (Lit.int .i64 x2).wf = true) (_ : (Lit.int .i64 x3).wf = true) (_ : (Lit.int .i64 x4).wf = true) (_ : (Lit.int .i64 x5).wf = true) (_ : (Lit.int .i64 x6).wf = true) :
    Calls Try.prog 5 #[.int .u64 seed, .agg #[.int .i64 nodes, .int .i64 n], .agg #[.int .i64 x0, .int .i64 x1, .int .i64 x2, .int .i64 x3, .int .i64 x4, .int .i64 x5, .int .i64 x6]] W fun e w' => e = .returned (.bool true) ∧ Below W.heap.size W w' := by
  have HR1 := Lib.hid (fun W => random_any seed nodes n [x0, x1, x2, x3, x4, x5, x6] rfl W)
  have HR2 := Lib.hid (fun W => rrandom_any seed nodes n [x0, x1, x2, x3, x4, x5, x6] rfl W)
  have HQ : Hid (∀ {l l' : List A3}, ((¬ okR nodes n [x0, x1, x2, x3, x4, x5, x6] ∧ l = []) ∨ (okR nodes n [x0, x1, x2, x3, x4, x5, x6] ∧ (l.length : Int) = n ∧ ∃ s, RandL nodes [x0, x1, x2, x3, x4, x5, x6] seed l s)) →
    ((¬ okR nodes n [x0, x1, x2, x3, x4, x5, x6] ∧ l' = []) ∨ (okR nodes n [x0, x1, x2, x3, x4, x5, x6] ∧ (l'.length : Int) = n ∧ ∃ s, RandL nodes [x0, x1, x2, x3, x4, x5, x6] seed l' s)) → l = l') := Lib.hid (fun h h' => rand_eq rfl h h')
  have HA := Lib.hid (Blkf.new_at W 37 (0, 0) #[.int .i64 nodes, .int .i64 n] rfl)
  have hA2 := (Blkf.new_at (n := W.heap.size) W 37 (0, 0) #[.int .i64 nodes, .int .i64 n] rfl).alloc (.cells #[.int .i64 x0, .int .i64 x1, .int .i64 x2, .int .i64 x3, .int .i64 x4, .int .i64 x5, .int .i64 x6] 38)
  have hB2 := Blkf.new_at (n := W.heap.size + 1) (W.alloc (.cells #[.int .i64 nodes, .int .i64 n] 37)) 38 (0, 0) #[.int .i64 x0, .int .i64 x1, .int .i64 x2, .int .i64 x3, .int .i64 x4, .int .i64 x5, .int .i64 x6] (by simp)
  have hb0 : Below W.heap.size W ((W.alloc (.cells #[.int .i64 nodes, .int .i64 n] 37)).alloc (.cells #[.int .i64 x0, .int .i64 x1, .int .i64 x2, .int .i64 x3, .int .i64 x4, .int .i64 x5, .int .i64 x6] 38)) := ((Below.refl _ W).alloc (Nat.le_refl _) _).alloc (by simp) _
  have HB0 := Lib.hid hb0
  have HA2 := Lib.hid hA2
  have HB2 := Lib.hid hB2
  clear hA2 hB2 hb0
  go_enter Try.func5, Try.ntmps5
  go_wp2_with fail
  refine (first_ok _).mono ?_
  rintro e w1 ⟨rfl, hb1⟩
  have HA1 := Lib.hid (HA2.out.below hb1 HA2.out.lt)
  have HB1 := Lib.hid (HB2.out.below hb1 HB2.out.lt)
  have HW1 := Lib.hid (HB0.out.trans (hb1.mono HB0.out.size))
  clear hb1
  have a0 := HA1.out.cell 0
  have a1 := HA1.out.cell 1
  have la := HA1.out.lt
  rcases (show (3000 < n ∧ n ≤ 100000) ∨ n ≤ 3000 ∨ (3000 < n ∧ 100000 < n) by omega) with ⟨h1, h2⟩ | h1 | ⟨h1, h2⟩
  · go_wp2
    go_ret
    exact ⟨rfl, HW1.out⟩
  all_goals
    go_wp2_with fail
    have lb := HB1.out.lt
    have t0 := fun W' (h : Ext w1.drew W') => (h.cell (p := ⟨W.heap.size, 0, none⟩) la).trans a0
    have t1 := fun W' (h : Ext w1.drew W') => (h.cell (p := ⟨W.heap.size, 1, none⟩) la).trans a1
    have s0 := fun W' (h : Ext w1.drew W') => (h.cell (p := ⟨W.heap.size + 1, 0, none⟩) lb).trans (HB1.out.cell 0)
    have s1 := fun W' (h : Ext w1.drew W') => (h.cell (p := ⟨W.heap.size + 1, 1, none⟩) lb).trans (HB1.out.cell 1)
    have s2 := fun W' (h : Ext w1.drew W') => (h.cell (p := ⟨W.heap.size + 1, 2, none⟩) lb).trans (HB1.out.cell 2)
    have s3 := fun W' (h : Ext w1.drew W') => (h.cell (p := ⟨W.heap.size + 1, 3, none⟩) lb).trans (HB1.out.cell 3)
    have s4 := fun W' (h : Ext w1.drew W') => (h.cell (p := ⟨W.heap.size + 1, 4, none⟩) lb).trans (HB1.out.cell 4)
    have s5 := fun W' (h : Ext w1.drew W') => (h.cell (p := ⟨W.heap.size + 1, 5, none⟩) lb).trans (HB1.out.cell 5)
    have s6 := fun W' (h : Ext w1.drew W') => (h.cell (p := ⟨W.heap.size + 1, 6, none⟩) lb).trans (HB1.out.cell 6)
    refine wp_region_plan [(0, false), (1, false), (2, false), (3, false), (4, false), (5, false), (7, false), (8, false), (9, false), (10, false), (11, false), (12, false), (6, true), (13, true), (14, true), (15, false)] (by kernel_rfl) (by kernel_rfl) (fun _ d _ _ _ h => by cases d <;> exact h) ?_
    iterate 12 (refine plan_take (v := ?_) rfl (by kernel_rfl) ?_ ?_; rotate_left; (focus (intro w' hw'; go_simp; try with_reducible rfl)); simp only [Act.put, List.setIfInBounds_toArray, List.set_cons_zero, List.set_cons_succ])
    clear s0 s1 s2 s3 s4 s5 s6 t0 t1
    refine plan_call rfl (by kernel_rfl) (by go_simp; exact ⟨rfl, rfl⟩) ?_
    refine (HR1.out _).mono ?_
    rintro e w2 ⟨u, rfl, l, ho2, hb2, hl2⟩
    have HO2 := Lib.hid ho2
    have HL2 := Lib.hid hl2
    have HW2 := Lib.hid (HW1.out.drew.trans (hb2.mono HW1.out.drew.size))
    refine ⟨_, rfl, hb2, ?_⟩
    simp only [Act.put, List.setIfInBounds_toArray, List.set_cons_zero, List.set_cons_succ]
    clear hb2 ho2 hl2
    refine plan_call rfl (by kernel_rfl) (by go_simp; exact ⟨rfl, rfl⟩) ?_
    refine (HR2.out _).mono ?_
    rintro e w3 ⟨v, rfl, l', ho3, hb3, hl3⟩
    have hll := HQ.out HL2.out hl3
    subst hll
    have HO3 := Lib.hid ho3
    have HU3 := Lib.hid ((HO2.out.rdB).keeps (Keeps.of_below (F := fun _ => False) hb3) (fun _ _ h => h))
    have HW3 := Lib.hid (HW2.out.trans (hb3.mono HW2.out.size))
    refine ⟨_, rfl, hb3, ?_⟩
    simp only [Act.put, List.setIfInBounds_toArray, List.set_cons_zero, List.set_cons_succ]
    clear hb3 ho3 hl3
    refine plan_call rfl (by kernel_rfl) (by go_simp; exact ⟨rfl, rfl⟩) ?_
    refine (same_any _ _ u v _ _ HU3.out HO3.out.rdB (rand_len HL2.out)).mono ?_
    rintro e w4 ⟨rfl, hb4⟩
    have HW4 := Lib.hid (HW3.out.trans (hb4.mono HW3.out.size))
    refine ⟨_, rfl, hb4, ?_⟩
    simp only [Act.put, List.setIfInBounds_toArray, List.set_cons_zero, List.set_cons_succ]
    clear hb4
    iterate 1 (refine plan_take (v := ?_) rfl (by kernel_rfl) ?_ ?_; rotate_left; (focus (intro w' hw'; go_simp; try with_reducible rfl)); simp only [Act.put, List.setIfInBounds_toArray, List.set_cons_zero, List.set_cons_succ])
    refine plan_end ?_
    go_wp2
    go_ret
    exact ⟨rfl, HW4.out⟩
end Go.Proofs.Ytkiicgdfibncfaa
