/- like; Double. -/
import Derived.Test.YtnnajaomajgoeaaNetF
namespace Go.Proofs.Ytnnajaomajgoeaa
open Go.RowKit Go.ChangeShapes

set_option maxHeartbeats 1000000 in
theorem like_any (p : Pc) (u : Value) (F : Nat → Prop) (W : World) (h : RdB W F u p.byt) :
    Calls Try.prog 29 #[.agg #[.int .i64 p.src, .int .i64 p.dst, u, .bool p.hurt]] W fun e w' => ∃ u', e = .returned (.agg #[.int .i64 p.src, .int .i64 p.dst, u', .bool p.hurt]) ∧ RdB w' (fun b => W.heap.size ≤ b ∧ b < w'.heap.size) u' p.byt ∧ Below W.heap.size W w' := by
  obtain ⟨A, c, rfl, hB, hc, hn, _⟩ := h
  have HBT := Lib.hid hB
  have HN := Lib.hid hn
  obtain ⟨n, hnn⟩ : ∃ n, n = p.byt.length := ⟨_, rfl⟩
  have HNN := Lib.hid hnn
  rw [← hnn]
  clear hB hc hn hnn
  go_enter Try.func29, Try.ntmps29
  go_wp2_with fail
  rw [HNN.out]
  obtain ⟨W2, hW2⟩ : ∃ W2, W2 = (W.alloc (.cells #[.int .i64 p.src, .int .i64 p.dst, .slice A p.byt.length c, .bool p.hurt] 37)).alloc (.cells #[.int .i64 0, .int .i64 0, .slice none 0 0, .bool false] 37) := ⟨_, rfl⟩
  have hb02 : Below W.heap.size W W2 := by rw [hW2]; exact ((Below.refl _ W).alloc (Nat.le_refl _) _).alloc (by simp) _
  have hs2 : W2.heap.size = W.heap.size + 2 := by rw [hW2]; simp
  have b0 : Blk W2 W.heap.size 37 #[.int .i64 p.src, .int .i64 p.dst, .slice A p.byt.length c, .bool p.hurt] := by rw [hW2]; exact (Blkf.new_at W _ _ _ rfl).alloc _
  have b1 : Blk W2 (W.heap.size + 1) 37 #[.int .i64 0, .int .i64 0, .slice none 0 0, .bool false] := by rw [hW2]; exact Blkf.new_at _ _ _ _ (by simp)
  rw [← hW2]
  clear hW2
  refine (clone_any A p.byt c _ HN.out (bts_below HBT.out hb02)).mono ?_
  rintro e w1 ⟨u1, rfl, hu, hb1⟩
  obtain ⟨Au, cu, e0⟩ := prow_form hu
  subst e0
  have HU := Lib.hid (rdb_of_own hu HBT.out.1 HN.out)
  have B0 := Lib.hid (b0.below hb1 (by omega))
  have B1 := Lib.hid (b1.below hb1 (by omega))
  have HB2 := Lib.hid (hb02.trans (hb1.mono hb02.size))
  have hs3 : W.heap.size + 2 ≤ w1.heap.size := by rw [← hs2]; exact hb1.size
  clear hu hb1 hb02 b0 b1
  have e0 := B0.out.cell 0
  have e1 := B0.out.cell 1
  have e2 := B0.out.cell 2
  have e3 := B0.out.cell 3
  have f2 := Blk.frozen B0.out 2
  have z0 := B1.out.cell 0
  have z1 := B1.out.cell 1
  have z2 := B1.out.cell 2
  have z3 := B1.out.cell 3
  have y0 := Blk.frozen B1.out 0
  have y1 := Blk.frozen B1.out 1
  have y2 := Blk.frozen B1.out 2
  have y3 := Blk.frozen B1.out 3
  have hl0 : W.heap.size < w1.heap.size := by omega
  have hl1 : W.heap.size + 1 < w1.heap.size := by omega
  simp only [List.getElem?_toArray, List.getElem?_cons_zero, List.getElem?_cons_succ] at e0 e1 e2 e3 z0 z1 z2 z3
  generalize p.byt.length = m at *
  go_wp2_with fail
  have ks : Keeps (fun b => b = W.heap.size ∨ b = W.heap.size + 1) w1 (((((w1.setCell ⟨W.heap.size, 2, none⟩ (.slice Au m cu)).setCell ⟨W.heap.size + 1, 0, none⟩ (.int .i64 p.src)).setCell ⟨W.heap.size + 1, 1, none⟩ (.int .i64 p.dst)).setCell ⟨W.heap.size + 1, 2, none⟩ (.slice Au m cu)).setCell ⟨W.heap.size + 1, 3, none⟩ (.bool p.hurt)) :=
    (((((Keeps.refl _ w1).setCell (p := ⟨W.heap.size, 2, none⟩) (.inl (.inl rfl)) _).setCell (p := ⟨W.heap.size + 1, 0, none⟩) (.inl (.inr rfl)) _).setCell (p := ⟨W.heap.size + 1, 1, none⟩) (.inl (.inr rfl)) _).setCell (p := ⟨W.heap.size + 1, 2, none⟩) (.inl (.inr rfl)) _).setCell (p := ⟨W.heap.size + 1, 3, none⟩) (.inl (.inr rfl)) _
  refine bodyPost_ret (v := .agg #[.int .i64 p.src, .int .i64 p.dst, .slice Au m cu, .bool p.hurt]) (res_cell Try.results29 _ _ (W.heap.size + 1) 37 _ rfl (Blkf.set_ (Blkf.set_ (Blkf.set_ (Blkf.set_ (B1.out.far (p := ⟨W.heap.size, 2, none⟩) (by show W.heap.size + 1 ≠ W.heap.size; omega) _) 0 (.int .i64 p.src)) 1 (.int .i64 p.dst)) 2 (.slice Au m cu)) 3 (.bool p.hurt)) (by kernel_rfl)) rfl ?_
  refine ⟨_, rfl, (HU.out.keeps ks (fun b hb hb' => by rcases hb' with hb' | hb' <;> omega)).mono (fun b hb => ⟨by omega, Nat.lt_of_lt_of_le hb.2 ks.size⟩), ?_⟩
  exact (HB2.out.trans (ks.below (B := W.heap.size) (fun i hi => by rcases hi with hi | hi <;> omega) (by omega)))
end Go.Proofs.Ytnnajaomajgoeaa
