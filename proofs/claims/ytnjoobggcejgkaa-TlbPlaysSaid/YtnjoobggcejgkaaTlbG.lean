/- Fill. -/
import Derived.Test.YtnjoobggcejgkaaTlbF
namespace Go.Proofs.Ytnjoobggcejgkaa
open Go.RowKit

theorem ways_set : ∀ (l : List En) (k : Nat) (n : En), k < l.length → ((((((((((((((((waysC l).set (k * 15 + 0) (.bool n.full)).set (k * 15 + 1) (.int .i64 n.asid)).set (k * 15 + 2) (.int .u64 n.page)).set (k * 15 + 3) (.bool n.lf.v)).set (k * 15 + 4) (.bool n.lf.r)).set (k * 15 + 5) (.bool n.lf.w)).set (k * 15 + 6) (.bool n.lf.x)).set (k * 15 + 7) (.bool n.lf.u)).set (k * 15 + 8) (.bool n.lf.g)).set (k * 15 + 9) (.bool n.lf.a)).set (k * 15 + 10) (.bool n.lf.d)).set (k * 15 + 11) (.int .i64 n.lf.rsw)).set (k * 15 + 12) (.int .u64 n.lf.ppn)).set (k * 15 + 13) (.int .i64 n.lf.lev)).set (k * 15 + 14) (.int .u64 n.lf.pos)) = waysC (l.set k n)
  | [], k, n, h => by simp at h
  | e :: r, 0, n, _ => rfl
  | e :: r, k + 1, n, h => by
    have ih := ways_set r k n (by simpa using h)
    show _ = e.vs ++ waysC (r.set k n)
    rw [← ih]
    have hs : ∀ (xs : List Value) (j : Nat) (v : Value), (e.vs ++ xs).set ((k + 1) * 15 + j) v = e.vs ++ xs.set (k * 15 + j) v := fun xs j v => by
      rw [List.set_append_right _ _ (by rw [vs_length]; omega), vs_length, show (k + 1) * 15 + j - 15 = k * 15 + j by omega]
    show ((((((((((((((((e.vs ++ waysC r).set ((k + 1) * 15 + 0) (.bool n.full)).set ((k + 1) * 15 + 1) (.int .i64 n.asid)).set ((k + 1) * 15 + 2) (.int .u64 n.page)).set ((k + 1) * 15 + 3) (.bool n.lf.v)).set ((k + 1) * 15 + 4) (.bool n.lf.r)).set ((k + 1) * 15 + 5) (.bool n.lf.w)).set ((k + 1) * 15 + 6) (.bool n.lf.x)).set ((k + 1) * 15 + 7) (.bool n.lf.u)).set ((k + 1) * 15 + 8) (.bool n.lf.g)).set ((k + 1) * 15 + 9) (.bool n.lf.a)).set ((k + 1) * 15 + 10) (.bool n.lf.d)).set ((k + 1) * 15 + 11) (.int .i64 n.lf.rsw)).set ((k + 1) * 15 + 12) (.int .u64 n.lf.ppn)).set ((k + 1) * 15 + 13) (.int .i64 n.lf.lev)).set ((k + 1) * 15 + 14) (.int .u64 n.lf.pos)) = _
    simp only [hs]
def fillE (va : Nat) (asid : Int) (lf : Lf) : En := ⟨true, asid, pgN va lf.lev, lf⟩
def fillQ (T : List (List En)) (va : Nat) (lf : Lf) : Nat := pgN va lf.lev % T.length
def fillS (T : List (List En)) (va : Nat) (asid : Int) (lf : Lf) (pick : Int) : List (List En) :=
  T.set (fillQ T va lf) ((T.getD (fillQ T va lf) []).set (victimN (T.getD (fillQ T va lf) []) (fillE va asid lf) pick) (fillE va asid lf))
/-- One set's ways are others: the buffer is. -/
theorem BufAt.turn {w w' : World} {g gs : Nat} {G : Nat → Nat} {T : List (List En)} {m q : Nat} {l : List En} (h : BufAt w g gs G T m) (hq : q < T.length) (hl : l.length = m) (hk : Keeps (fun x => x = G q) w w') (hg : Blk w' (G q) 59 (waysC l).toArray) : BufAt w' g gs G (T.set q l) m := by
  obtain ⟨c, hc⟩ := h.head
  obtain ⟨cur, ho, hcur⟩ := h.outer
  have hi := h.inner q hq
  have n1 : g ≠ G q := fun e => blk_ne_blk hc hi (by decide) e
  have n2 : gs ≠ G q := fun e => blk_ne_blk ho hi (by decide) e
  refine ⟨⟨c, ?_⟩, ⟨cur, hk.blk ho n2, ?_⟩, ?_, ?_, ?_⟩
  · rw [List.length_set]; exact hk.blk hc n1
  · rw [List.length_set]; exact hcur
  · intro i hi'
    rw [List.length_set] at hi'
    by_cases hiq : i = q
    · subst hiq
      rw [List.getD_eq_getElem?_getD, List.getElem?_set_self hi']
      exact hl
    · rw [List.getD_eq_getElem?_getD, List.getElem?_set_ne (Ne.symm hiq), ← List.getD_eq_getElem?_getD]
      exact h.ways i hi'
  · intro i hi'
    rw [List.length_set] at hi'
    by_cases hiq : i = q
    · subst hiq
      rw [List.getD_eq_getElem?_getD, List.getElem?_set_self hi']
      exact hg
    · rw [List.getD_eq_getElem?_getD, List.getElem?_set_ne (Ne.symm hiq), ← List.getD_eq_getElem?_getD]
      exact hk.blk (h.inner i hi') (fun e => hiq (h.inj i q hi' hq e))
  · intro i j hi' hj'
    rw [List.length_set] at hi' hj'
    exact h.inj i j hi' hj'
theorem victim_lt (l : List En) (n : En) (pick : Int) (h : 0 < l.length) : victimN l n pick < l.length := by
  unfold victimN
  split
  · rename_i i hi
    exact (List.findIdx?_eq_some_iff_getElem.1 hi).1
  · split
    · rename_i i hi
      exact (List.findIdx?_eq_some_iff_getElem.1 hi).1
    · exact Nat.mod_lt _ h
theorem way_some {w : World} {gi k j : Nat} {l : List En} (h : Blk w gi 59 (waysC l).toArray) (hk : k < l.length) (hj : j < 15) : ∃ v, w.cell? ⟨gi, k * 15 + j, none⟩ = some v := by
  rw [way_cell h (List.getElem?_eq_getElem hk) hj]
  exact ⟨_, List.getElem?_eq_getElem (by rw [vs_length]; exact hj)⟩
def FillR (g gs : Nat) (G : Nat → Nat) (T' : List (List En)) (n m : Nat) (b : Bool) (W : World) (e : Ending) (w' : World) : Prop :=
  e = .returned (.bool b) ∧ BufAt w' g gs G T' m ∧ Keeps (bufF g gs G n) W w'
set_option maxHeartbeats 4000000 in
theorem fill_no (g gs : Nat) (G : Nat → Nat) (T : List (List En)) (m : Nat) (va : Nat) (asid : Int) (lf : Lf) (pick : Int) (W : World) (hB : BufAt W g gs G T m) (hl : levOK lf.lev = false) :
    Calls Try.prog 9 #[.pointer (some ⟨g, 0, none⟩), .int .u64 va, .int .i64 asid, lf.val, .int .i64 pick] W (FillR g gs G T T.length m false W) := by
  have hc := (Below.refl W.heap.size W).alloc (Nat.le_refl _) (.cells #[.bool lf.v, .bool lf.r, .bool lf.w, .bool lf.x, .bool lf.u, .bool lf.g, .bool lf.a, .bool lf.d, .int .i64 lf.rsw, .int .u64 lf.ppn, .int .i64 lf.lev, .int .u64 lf.pos] 33)
  have hX : Blk (W.alloc (.cells #[.bool lf.v, .bool lf.r, .bool lf.w, .bool lf.x, .bool lf.u, .bool lf.g, .bool lf.a, .bool lf.d, .int .i64 lf.rsw, .int .u64 lf.ppn, .int .i64 lf.lev, .int .u64 lf.pos] 33)) W.heap.size 33 #[.bool lf.v, .bool lf.r, .bool lf.w, .bool lf.x, .bool lf.u, .bool lf.g, .bool lf.a, .bool lf.d, .int .i64 lf.rsw, .int .u64 lf.ppn, .int .i64 lf.lev, .int .u64 lf.pos] := Blkf.new_at _ _ _ _ rfl
  have HB0 := Lib.hid (hB.below hc)
  have HC0 := Lib.hid hc
  have x10 := hX.cell 10
  have xl := hX.lt
  simp at x10
  clear hc hX hB
  unfold Lf.val FillR
  rcases (show lf.lev < 0 ∨ (0 ≤ lf.lev ∧ 2 < lf.lev) by simp [levOK] at hl; omega) with h | ⟨h, h'⟩
  · go_enter Try.func9, Try.ntmps9
    go_wp2
    go_ret
    exact ⟨rfl, HB0.out, Keeps.of_below HC0.out⟩
  · go_enter Try.func9, Try.ntmps9
    go_wp2
    go_ret
    exact ⟨rfl, HB0.out, Keeps.of_below HC0.out⟩
set_option maxHeartbeats 4000000 in
theorem fill_yes (g gs : Nat) (G : Nat → Nat) (T : List (List En)) (m : Nat) (va : Nat) (asid : Int) (lf : Lf) (pick : Int) (W : World) (hv : va < 18446744073709551616) (hp : -9223372036854775808 ≤ pick ∧ pick < 9223372036854775808) (hn : 0 < T.length) (hn2 : T.length ≤ 64) (hm0 : 0 < m) (hm : m ≤ 8) (hB : BufAt W g gs G T m) (hl : levOK lf.lev = true) :
    Calls Try.prog 9 #[.pointer (some ⟨g, 0, none⟩), .int .u64 va, .int .i64 asid, lf.val, .int .i64 pick] W (FillR g gs G (fillS T va asid lf pick) T.length m true W) := by
  have hc := (Below.refl W.heap.size W).alloc (Nat.le_refl _) (.cells #[.bool lf.v, .bool lf.r, .bool lf.w, .bool lf.x, .bool lf.u, .bool lf.g, .bool lf.a, .bool lf.d, .int .i64 lf.rsw, .int .u64 lf.ppn, .int .i64 lf.lev, .int .u64 lf.pos] 33)
  have hX : Blk (W.alloc (.cells #[.bool lf.v, .bool lf.r, .bool lf.w, .bool lf.x, .bool lf.u, .bool lf.g, .bool lf.a, .bool lf.d, .int .i64 lf.rsw, .int .u64 lf.ppn, .int .i64 lf.lev, .int .u64 lf.pos] 33)) W.heap.size 33 #[.bool lf.v, .bool lf.r, .bool lf.w, .bool lf.x, .bool lf.u, .bool lf.g, .bool lf.a, .bool lf.d, .int .i64 lf.rsw, .int .u64 lf.ppn, .int .i64 lf.lev, .int .u64 lf.pos] := Blkf.new_at _ _ _ _ rfl
  have HB0 := Lib.hid (hB.below hc)
  have HC0 := Lib.hid hc
  have HX0 := Lib.hid hX
  have HP := Lib.hid hp
  have x10 := hX.cell 10
  have xl := hX.lt
  simp at x10
  clear hc hX hB hp
  unfold Lf.val FillR
  have h0 : ¬ lf.lev < 0 := by simp [levOK] at hl; omega
  have h2 : ¬ 2 < lf.lev := by simp [levOK] at hl; omega
  go_enter Try.func9, Try.ntmps9
  go_wp2_with fail
  generalize W.alloc (.cells #[.bool lf.v, .bool lf.r, .bool lf.w, .bool lf.x, .bool lf.u, .bool lf.g, .bool lf.a, .bool lf.d, .int .i64 lf.rsw, .int .u64 lf.ppn, .int .i64 lf.lev, .int .u64 lf.pos] 33) = w0 at *
  clear x10 xl
  have t0 := fun W' (h : Ext w0.drew W') => (h.cell (p := ⟨W.heap.size, 0, none⟩) HX0.out.lt).trans (HX0.out.cell 0)
  have t1 := fun W' (h : Ext w0.drew W') => (h.cell (p := ⟨W.heap.size, 1, none⟩) HX0.out.lt).trans (HX0.out.cell 1)
  have t2 := fun W' (h : Ext w0.drew W') => (h.cell (p := ⟨W.heap.size, 2, none⟩) HX0.out.lt).trans (HX0.out.cell 2)
  have t3 := fun W' (h : Ext w0.drew W') => (h.cell (p := ⟨W.heap.size, 3, none⟩) HX0.out.lt).trans (HX0.out.cell 3)
  have t4 := fun W' (h : Ext w0.drew W') => (h.cell (p := ⟨W.heap.size, 4, none⟩) HX0.out.lt).trans (HX0.out.cell 4)
  have t5 := fun W' (h : Ext w0.drew W') => (h.cell (p := ⟨W.heap.size, 5, none⟩) HX0.out.lt).trans (HX0.out.cell 5)
  have t6 := fun W' (h : Ext w0.drew W') => (h.cell (p := ⟨W.heap.size, 6, none⟩) HX0.out.lt).trans (HX0.out.cell 6)
  have t7 := fun W' (h : Ext w0.drew W') => (h.cell (p := ⟨W.heap.size, 7, none⟩) HX0.out.lt).trans (HX0.out.cell 7)
  have t8 := fun W' (h : Ext w0.drew W') => (h.cell (p := ⟨W.heap.size, 8, none⟩) HX0.out.lt).trans (HX0.out.cell 8)
  have t9 := fun W' (h : Ext w0.drew W') => (h.cell (p := ⟨W.heap.size, 9, none⟩) HX0.out.lt).trans (HX0.out.cell 9)
  have t10 := fun W' (h : Ext w0.drew W') => (h.cell (p := ⟨W.heap.size, 10, none⟩) HX0.out.lt).trans (HX0.out.cell 10)
  have t11 := fun W' (h : Ext w0.drew W') => (h.cell (p := ⟨W.heap.size, 11, none⟩) HX0.out.lt).trans (HX0.out.cell 11)
  simp at t0 t1 t2 t3 t4 t5 t6 t7 t8 t9 t10 t11
  refine wp_region_plan [(0, false), (1, false), (2, false), (3, false), (4, false), (5, false), (6, false), (7, true), (8, true)] (by kernel_rfl) (by kernel_rfl) (fun _ d _ _ _ h => by cases d <;> exact h) ?_
  iterate 4 (refine plan_take (v := ?_) rfl (by kernel_rfl) ?_ ?_; rotate_left; (focus (intro w' hw'; try go_simp; try with_reducible rfl)); simp only [Act.put, List.setIfInBounds_toArray, List.set_cons_zero, List.set_cons_succ])
  refine plan_quiet rfl (by kernel_rfl) (fun w' => by go_simp; all_goals (first | exact ⟨rfl, rfl⟩ | rfl)) (fun w' hw' => page_any va lf.lev w' hv hl) ?_
  simp only [Act.put, List.setIfInBounds_toArray, List.set_cons_zero, List.set_cons_succ]
  iterate 2 (refine plan_take (v := ?_) rfl (by kernel_rfl) ?_ ?_; rotate_left; (focus (intro w' hw'; try go_simp; try with_reducible rfl)); simp only [Act.put, List.setIfInBounds_toArray, List.set_cons_zero, List.set_cons_succ])
  clear t0 t1 t2 t3 t4 t5 t6 t7 t8 t9 t10 t11
  refine plan_turn rfl (by kernel_rfl) (fun K hK => ?_)
  go_simp
  refine hK _ _ ⟨(Ext.refl _).alloc (Nat.le_refl _) _, ?_⟩
  clear hK K
  refine plan_last rfl (by kernel_rfl) (by kernel_rfl) (fun K hK => ?_)
  go_simp
  refine hK _ _ ?_
  clear hK K
  refine plan_end ?_
  have hE := ((Below.refl w0.heap.size w0).alloc (Nat.le_refl _) (.cells #[.bool true, .int .i64 asid, .int .u64 (pgN va lf.lev : Nat), .bool lf.v, .bool lf.r, .bool lf.w, .bool lf.x, .bool lf.u, .bool lf.g, .bool lf.a, .bool lf.d, .int .i64 lf.rsw, .int .u64 lf.ppn, .int .i64 lf.lev, .int .u64 lf.pos] 59)).drew
  have hY : Blk (w0.alloc (.cells #[.bool true, .int .i64 asid, .int .u64 (pgN va lf.lev : Nat), .bool lf.v, .bool lf.r, .bool lf.w, .bool lf.x, .bool lf.u, .bool lf.g, .bool lf.a, .bool lf.d, .int .i64 lf.rsw, .int .u64 lf.ppn, .int .i64 lf.lev, .int .u64 lf.pos] 59)).drew w0.heap.size 59 #[.bool true, .int .i64 asid, .int .u64 (pgN va lf.lev : Nat), .bool lf.v, .bool lf.r, .bool lf.w, .bool lf.x, .bool lf.u, .bool lf.g, .bool lf.a, .bool lf.d, .int .i64 lf.rsw, .int .u64 lf.ppn, .int .i64 lf.lev, .int .u64 lf.pos] := Blkf.new_at w0 _ _ _ rfl
  obtain ⟨b2, hb2⟩ : ∃ b, b = w0.heap.size := ⟨_, rfl⟩
  have HB1 := Lib.hid (HB0.out.below hE)
  have HC1 := Lib.hid (HC0.out.trans (hE.mono HC0.out.size))
  rw [← hb2] at hY ⊢
  have HB2 : Hid (W.heap.size ≤ b2) := Lib.hid (by rw [hb2]; exact HC0.out.size)
  have HOLD : Hid (∀ i, i < T.length → G i < b2) := Lib.hid (fun i hi => by rw [hb2]; exact (HB0.out.inner i hi).lt)
  generalize (w0.alloc (.cells #[.bool true, .int .i64 asid, .int .u64 (pgN va lf.lev : Nat), .bool lf.v, .bool lf.r, .bool lf.w, .bool lf.x, .bool lf.u, .bool lf.g, .bool lf.a, .bool lf.d, .int .i64 lf.rsw, .int .u64 lf.ppn, .int .i64 lf.lev, .int .u64 lf.pos] 59)).drew = w1 at *
  have HY1 := Lib.hid hY
  clear hE hY hb2
  have y2 := HY1.out.cell 2
  have yl := HY1.out.lt
  simp at y2
  go_wp2_with fail
  clear y2 yl
  refine (set_any g gs G T m (pgN va lf.lev) _ (Nat.lt_trans (pgN_lt va lf.lev) (by decide)) hn hn2 HB1.out).mono ?_
  rintro e w ⟨rfl, rfl⟩
  obtain ⟨q, hq⟩ : ∃ q, q = pgN va lf.lev % T.length := ⟨_, rfl⟩
  have hql : q < T.length := by rw [hq]; exact Nat.mod_lt _ hn
  rw [← hq]
  have HQ := Lib.hid hq
  have HQL := Lib.hid hql
  clear hq hql
  have HB2' := Lib.hid HB1.out.drew
  have HC2 := Lib.hid HC1.out.drew
  have HY2 := Lib.hid HY1.out.drew
  generalize w1.drew = w2 at *
  go_wp2_with fail
  have u0 := fun W' (h : Ext w2.drew W') => (h.cell (p := ⟨b2, 0, none⟩) HY2.out.lt).trans (HY2.out.cell 0)
  have u1 := fun W' (h : Ext w2.drew W') => (h.cell (p := ⟨b2, 1, none⟩) HY2.out.lt).trans (HY2.out.cell 1)
  have u2 := fun W' (h : Ext w2.drew W') => (h.cell (p := ⟨b2, 2, none⟩) HY2.out.lt).trans (HY2.out.cell 2)
  have u3 := fun W' (h : Ext w2.drew W') => (h.cell (p := ⟨b2, 3, none⟩) HY2.out.lt).trans (HY2.out.cell 3)
  have u4 := fun W' (h : Ext w2.drew W') => (h.cell (p := ⟨b2, 4, none⟩) HY2.out.lt).trans (HY2.out.cell 4)
  have u5 := fun W' (h : Ext w2.drew W') => (h.cell (p := ⟨b2, 5, none⟩) HY2.out.lt).trans (HY2.out.cell 5)
  have u6 := fun W' (h : Ext w2.drew W') => (h.cell (p := ⟨b2, 6, none⟩) HY2.out.lt).trans (HY2.out.cell 6)
  have u7 := fun W' (h : Ext w2.drew W') => (h.cell (p := ⟨b2, 7, none⟩) HY2.out.lt).trans (HY2.out.cell 7)
  have u8 := fun W' (h : Ext w2.drew W') => (h.cell (p := ⟨b2, 8, none⟩) HY2.out.lt).trans (HY2.out.cell 8)
  have u9 := fun W' (h : Ext w2.drew W') => (h.cell (p := ⟨b2, 9, none⟩) HY2.out.lt).trans (HY2.out.cell 9)
  have u10 := fun W' (h : Ext w2.drew W') => (h.cell (p := ⟨b2, 10, none⟩) HY2.out.lt).trans (HY2.out.cell 10)
  have u11 := fun W' (h : Ext w2.drew W') => (h.cell (p := ⟨b2, 11, none⟩) HY2.out.lt).trans (HY2.out.cell 11)
  have u12 := fun W' (h : Ext w2.drew W') => (h.cell (p := ⟨b2, 12, none⟩) HY2.out.lt).trans (HY2.out.cell 12)
  have u13 := fun W' (h : Ext w2.drew W') => (h.cell (p := ⟨b2, 13, none⟩) HY2.out.lt).trans (HY2.out.cell 13)
  have u14 := fun W' (h : Ext w2.drew W') => (h.cell (p := ⟨b2, 14, none⟩) HY2.out.lt).trans (HY2.out.cell 14)
  simp at u0 u1 u2 u3 u4 u5 u6 u7 u8 u9 u10 u11 u12 u13 u14
  refine wp_region_plan [(0, false), (1, false), (2, false), (3, false), (5, false), (4, true), (6, false), (7, true)] (by kernel_rfl) (by kernel_rfl) (fun _ d _ _ _ h => by cases d <;> exact h) ?_
  iterate 5 (refine plan_take (v := ?_) rfl (by kernel_rfl) ?_ ?_; rotate_left; (focus (intro w' hw'; try go_simp; try with_reducible rfl)); simp only [Act.put, List.setIfInBounds_toArray, List.set_cons_zero, List.set_cons_succ])
  clear u0 u1 u2 u3 u4 u5 u6 u7 u8 u9 u10 u11 u12 u13 u14
  obtain ⟨l, hl'⟩ : ∃ l, l = T.getD q [] := ⟨_, rfl⟩
  have HLL : Hid (l.length = m) := Lib.hid (by rw [hl']; exact HB2'.out.ways q HQL.out)
  have HG2 : Hid (Blk w2.drew (G q) 59 (waysC l).toArray) := Lib.hid (by rw [hl']; exact (HB2'.out.inner q HQL.out).drew)
  have HLE := Lib.hid hl'
  clear hl'
  refine plan_call rfl (by kernel_rfl) (by go_simp; exact ⟨rfl, rfl⟩) ?_
  refine (victim_any (G q) l m (fillE va asid lf) pick _ hm0 hm HLL.out HP.out HG2.out).mono ?_
  rintro e w3 ⟨rfl, hb⟩
  obtain ⟨vn, hvn⟩ : ∃ v, v = victimN l (fillE va asid lf) pick := ⟨_, rfl⟩
  have hvl : vn < m := by
    have := victim_lt l (fillE va asid lf) pick (by rw [HLL.out]; exact hm0)
    rw [hvn]
    rw [HLL.out] at this
    exact this
  rw [← hvn]
  have HVN := Lib.hid hvn
  have HG3 := Lib.hid (HG2.out.below hb HG2.out.lt)
  have HB3 := Lib.hid (HB2'.out.drew.below hb)
  have HC3 := Lib.hid (HC2.out.drew.trans (hb.mono HC2.out.size))
  refine ⟨_, rfl, hb, ?_⟩
  simp only [Act.put, List.setIfInBounds_toArray, List.set_cons_zero, List.set_cons_succ]
  clear hb hvn
  have hvi : (vn : Int) < (m : Int) := by omega
  iterate 1 (refine plan_take (v := ?_) rfl (by kernel_rfl) ?_ ?_; rotate_left; (focus (intro w' hw'; try go_simp; try with_reducible rfl)); simp only [Act.put, List.setIfInBounds_toArray, List.set_cons_zero, List.set_cons_succ])
  obtain ⟨eo, heo⟩ : ∃ eo, l[vn]? = some eo := ⟨_, List.getElem?_eq_getElem (by rw [HLL.out]; exact hvl)⟩
  have zl := HG3.out.lt
  have zf := fun i => HG3.out.frozen i
  have z0 := way_cell HG3.out heo (j := 0) (by decide)
  have z1 := way_cell HG3.out heo (j := 1) (by decide)
  have z2 := way_cell HG3.out heo (j := 2) (by decide)
  have z3 := way_cell HG3.out heo (j := 3) (by decide)
  have z4 := way_cell HG3.out heo (j := 4) (by decide)
  have z5 := way_cell HG3.out heo (j := 5) (by decide)
  have z6 := way_cell HG3.out heo (j := 6) (by decide)
  have z7 := way_cell HG3.out heo (j := 7) (by decide)
  have z8 := way_cell HG3.out heo (j := 8) (by decide)
  have z9 := way_cell HG3.out heo (j := 9) (by decide)
  have z10 := way_cell HG3.out heo (j := 10) (by decide)
  have z11 := way_cell HG3.out heo (j := 11) (by decide)
  have z12 := way_cell HG3.out heo (j := 12) (by decide)
  have z13 := way_cell HG3.out heo (j := 13) (by decide)
  have z14 := way_cell HG3.out heo (j := 14) (by decide)
  simp [En.vs] at z0 z1 z2 z3 z4 z5 z6 z7 z8 z9 z10 z11 z12 z13 z14
  clear heo
  refine plan_last rfl (by kernel_rfl) (by kernel_rfl) (fun K hK => ?_)
  go_simp
  refine hK _ _ ?_
  clear hK K z0 z1 z2 z3 z4 z5 z6 z7 z8 z9 z10 z11 z12 z13 z14 zl zf
  refine plan_end ?_
  have hZ := (((((((((((((((HG3.out.set_ (vn * 15) (.bool true)).set_ (vn * 15 + 1) (.int .i64 asid)).set_ (vn * 15 + 2) (.int .u64 (pgN va lf.lev : Nat))).set_ (vn * 15 + 3) (.bool lf.v)).set_ (vn * 15 + 4) (.bool lf.r)).set_ (vn * 15 + 5) (.bool lf.w)).set_ (vn * 15 + 6) (.bool lf.x)).set_ (vn * 15 + 7) (.bool lf.u)).set_ (vn * 15 + 8) (.bool lf.g)).set_ (vn * 15 + 9) (.bool lf.a)).set_ (vn * 15 + 10) (.bool lf.d)).set_ (vn * 15 + 11) (.int .i64 lf.rsw)).set_ (vn * 15 + 12) (.int .u64 lf.ppn)).set_ (vn * 15 + 13) (.int .i64 lf.lev)).set_ (vn * 15 + 14) (.int .u64 lf.pos))
  have hKK := ((((((((((((((((Keeps.refl (fun x => x = G q) w3).setCell (p := ⟨G q, vn * 15, none⟩) (.inl rfl) (.bool true)).setCell (p := ⟨G q, vn * 15 + 1, none⟩) (.inl rfl) (.int .i64 asid)).setCell (p := ⟨G q, vn * 15 + 2, none⟩) (.inl rfl) (.int .u64 (pgN va lf.lev : Nat))).setCell (p := ⟨G q, vn * 15 + 3, none⟩) (.inl rfl) (.bool lf.v)).setCell (p := ⟨G q, vn * 15 + 4, none⟩) (.inl rfl) (.bool lf.r)).setCell (p := ⟨G q, vn * 15 + 5, none⟩) (.inl rfl) (.bool lf.w)).setCell (p := ⟨G q, vn * 15 + 6, none⟩) (.inl rfl) (.bool lf.x)).setCell (p := ⟨G q, vn * 15 + 7, none⟩) (.inl rfl) (.bool lf.u)).setCell (p := ⟨G q, vn * 15 + 8, none⟩) (.inl rfl) (.bool lf.g)).setCell (p := ⟨G q, vn * 15 + 9, none⟩) (.inl rfl) (.bool lf.a)).setCell (p := ⟨G q, vn * 15 + 10, none⟩) (.inl rfl) (.bool lf.d)).setCell (p := ⟨G q, vn * 15 + 11, none⟩) (.inl rfl) (.int .i64 lf.rsw)).setCell (p := ⟨G q, vn * 15 + 12, none⟩) (.inl rfl) (.int .u64 lf.ppn)).setCell (p := ⟨G q, vn * 15 + 13, none⟩) (.inl rfl) (.int .i64 lf.lev)).setCell (p := ⟨G q, vn * 15 + 14, none⟩) (.inl rfl) (.int .u64 lf.pos))
  simp only [List.setIfInBounds_toArray] at hZ
  have hZ2 : Blk (((((((((((((((w3.setCell ⟨G q, vn * 15, none⟩ (.bool true)).setCell ⟨G q, vn * 15 + 1, none⟩ (.int .i64 asid)).setCell ⟨G q, vn * 15 + 2, none⟩ (.int .u64 (pgN va lf.lev : Nat))).setCell ⟨G q, vn * 15 + 3, none⟩ (.bool lf.v)).setCell ⟨G q, vn * 15 + 4, none⟩ (.bool lf.r)).setCell ⟨G q, vn * 15 + 5, none⟩ (.bool lf.w)).setCell ⟨G q, vn * 15 + 6, none⟩ (.bool lf.x)).setCell ⟨G q, vn * 15 + 7, none⟩ (.bool lf.u)).setCell ⟨G q, vn * 15 + 8, none⟩ (.bool lf.g)).setCell ⟨G q, vn * 15 + 9, none⟩ (.bool lf.a)).setCell ⟨G q, vn * 15 + 10, none⟩ (.bool lf.d)).setCell ⟨G q, vn * 15 + 11, none⟩ (.int .i64 lf.rsw)).setCell ⟨G q, vn * 15 + 12, none⟩ (.int .u64 lf.ppn)).setCell ⟨G q, vn * 15 + 13, none⟩ (.int .i64 lf.lev)).setCell ⟨G q, vn * 15 + 14, none⟩ (.int .u64 lf.pos)) (G q) 59 (waysC (l.set vn (fillE va asid lf))).toArray := by
    rw [← ways_set l vn (fillE va asid lf) (by rw [HLL.out]; exact hvl)]
    exact hZ
  generalize (((((((((((((((w3.setCell ⟨G q, vn * 15, none⟩ (.bool true)).setCell ⟨G q, vn * 15 + 1, none⟩ (.int .i64 asid)).setCell ⟨G q, vn * 15 + 2, none⟩ (.int .u64 (pgN va lf.lev : Nat))).setCell ⟨G q, vn * 15 + 3, none⟩ (.bool lf.v)).setCell ⟨G q, vn * 15 + 4, none⟩ (.bool lf.r)).setCell ⟨G q, vn * 15 + 5, none⟩ (.bool lf.w)).setCell ⟨G q, vn * 15 + 6, none⟩ (.bool lf.x)).setCell ⟨G q, vn * 15 + 7, none⟩ (.bool lf.u)).setCell ⟨G q, vn * 15 + 8, none⟩ (.bool lf.g)).setCell ⟨G q, vn * 15 + 9, none⟩ (.bool lf.a)).setCell ⟨G q, vn * 15 + 10, none⟩ (.bool lf.d)).setCell ⟨G q, vn * 15 + 11, none⟩ (.int .i64 lf.rsw)).setCell ⟨G q, vn * 15 + 12, none⟩ (.int .u64 lf.ppn)).setCell ⟨G q, vn * 15 + 13, none⟩ (.int .i64 lf.lev)).setCell ⟨G q, vn * 15 + 14, none⟩ (.int .u64 lf.pos)) = w4 at *
  have HBF := Lib.hid (HB3.out.turn HQL.out (l := l.set vn (fillE va asid lf)) (by rw [List.length_set]; exact HLL.out) hKK hZ2)
  have HKF : Hid (Keeps (bufF g gs G T.length) W w4) := Lib.hid ((Keeps.of_below HC3.out).trans hKK (fun i hi => .inl (.inr (.inr ⟨q, HQL.out, hi⟩))))
  clear hZ hKK hZ2
  go_wp2
  go_ret
  refine ⟨rfl, ?_, HKF.out⟩
  have hfin := HBF.out
  rw [HVN.out, HLE.out, HQ.out] at hfin
  exact hfin
end Go.Proofs.Ytnjoobggcejgkaa
