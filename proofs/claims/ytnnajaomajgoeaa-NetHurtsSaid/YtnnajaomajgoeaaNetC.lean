/- Send: the walk. -/
import Derived.Test.YtnnajaomajgoeaaNetB
namespace Go.Proofs.Ytnnajaomajgoeaa
open Go.RowKit Go.ChangeShapes

theorem send_full (gb : Nat) (L : List (Pc × Value)) (lost src dst : Int) (V : Value) (F : Nat → Prop) (W : World) (h : BagAt W gb L lost F) (hf : 4096 ≤ L.length) (hl : 0 ≤ lost ∧ lost < 1000000000) :
    Calls Try.prog 8 #[.pointer (some ⟨gb, 0, none⟩), .int .i64 src, .int .i64 dst, V] W fun e w' => e = .returned (.bool false) ∧ BagAt w' gb L (lost + 1) F ∧ Keeps F W w' := by
  have HB := Lib.hid h
  obtain ⟨v, h1, h2, h3⟩ := h.own
  have c1 := h1.cell 1
  have f1 := Blk.frozen h1 1
  have hlt := h1.lt
  simp at c1
  obtain ⟨l0, l1⟩ := hl
  have H1 := Lib.hid h1
  have H2 := Lib.hid h2
  have H3 := Lib.hid h3
  have HFU := Lib.hid hf
  clear h h1 h2 h3 hf
  go_enter Try.func8, Try.ntmps8
  go_wp2_with fail
  refine (full_any gb L lost F _ HB.out).mono ?_
  rintro e w ⟨rfl, rfl⟩
  rw [decide_eq_true HFU.out]
  go_wp2_with fail
  go_ret
  have hk : Keeps (fun b => b = gb) W (W.setCell ⟨gb, 1, none⟩ (.int .i64 (lost + 1))) := (Keeps.refl (fun b => b = gb) W).setCell (p := ⟨gb, 1, none⟩) (.inl rfl) _
  have hvb : v.ownBlock ≠ some gb := row_ne_blk H2.out H1.out (by decide)
  refine ⟨rfl, ⟨⟨v, Blkf.set_ H1.out 1 _, hk.row H2.out (fun g hg e => hvb (by rw [hg, e])), H3.out⟩, fun x hx => (HB.out.rd x hx).keeps hk (fun b hb e => hb.2 e), HB.out.apart, HB.out.self, fun b hb => Nat.lt_of_lt_of_le (HB.out.lt b hb) hk.size⟩, hk.mono' fun b e => by rw [e]; exact HB.out.self⟩
set_option maxHeartbeats 1000000 in
theorem send_yes (gb : Nat) (L : List (Pc × Value)) (lost src dst : Int) (A : Option Addr) (l : List Nat) (c : Nat) (F : Nat → Prop) (W : World) (h : BagAt W gb L lost F) (hf : L.length < 4096) (hB : Bts W A l) (hn : l.length ≤ 140737488355328) :
    Calls Try.prog 8 #[.pointer (some ⟨gb, 0, none⟩), .int .i64 src, .int .i64 dst, .slice A l.length c] W fun e w' => e = .returned (.bool true) ∧ ∃ u F', BagAt w' gb (L ++ [(⟨src, dst, l, false⟩, u)]) lost F' ∧ (∀ b, F' b → F b ∨ W.heap.size ≤ b) ∧ Keeps F W w' := by
  obtain ⟨i0, hi0, hz0, hz1, hz2⟩ := info_parts info_pc
  have HB := Lib.hid h
  obtain ⟨v, h1, h2, h3⟩ := h.own
  obtain ⟨Av, cv, rfl⟩ := prow_form h2
  have H1 := Lib.hid h1
  have H2 := Lib.hid h2
  have H3 := Lib.hid h3
  have HFU := Lib.hid hf
  have HBT := Lib.hid hB
  have HN := Lib.hid hn
  have hlt := h1.lt
  obtain ⟨n, hnn⟩ : ∃ n, n = l.length := ⟨_, rfl⟩
  obtain ⟨m, hmm⟩ : ∃ m, m = L.length := ⟨_, rfl⟩
  have s0 : ∀ W' : World, W'.heap[gb]? = W.drew.heap[gb]? → W'.cell? ⟨gb, 0, none⟩ = some (.slice Av m cv) := fun W' h => (World.cell?_of_block (a := ⟨gb, 0, none⟩) h).trans (by rw [hmm]; exact h1.cell 0)
  have HNN := Lib.hid hnn
  have HMM := Lib.hid hmm
  rw [← hnn]
  clear h h1 h2 h3 hf hB hn hnn hmm
  go_enter Try.func8, Try.ntmps8
  go_wp2_with fail
  refine (full_any gb L lost F _ HB.out).mono ?_
  rintro e w ⟨rfl, rfl⟩
  rw [decide_eq_false (by have := HFU.out; omega)]
  go_wp2_with fail
  refine wp_region_plan_by (fun u u' => u'.heap[gb]? = u.heap[gb]?) ⟨fun _ => rfl, fun h k => k.trans h⟩ [(0, false), (1, false), (2, false), (3, false), (4, false), (5, false), (6, false), (7, false), (8, true), (9, false), (10, true), (11, true), (12, false), (13, false), (14, true)] (by kernel_rfl) (by kernel_rfl) (fun _ d _ _ _ h => by cases d <;> exact h) ?_
  iterate 8 (refine plan_take (v := ?_) rfl (by kernel_rfl) ?_ ?_; rotate_left; (focus (intro w' hw'; try go_simp; try with_reducible rfl)); simp only [Act.put, List.setIfInBounds_toArray, List.set_cons_zero, List.set_cons_succ])
  refine plan_call rfl (by kernel_rfl) (by go_simp; exact ⟨rfl, rfl⟩) ?_
  rw [HNN.out]
  refine (clone_any A l c W.drew HN.out (show Bts W.drew A l from HBT.out)).mono ?_
  rintro e w1 ⟨u, rfl, hu, hb1⟩
  obtain ⟨Au, cu, e0⟩ := prow_form hu
  subst e0
  have HU := Lib.hid (rdb_of_own hu HBT.out.1 HN.out)
  refine ⟨_, rfl, hb1.block gb hlt, ?_⟩
  simp only [Act.put, List.setIfInBounds_toArray, List.set_cons_zero, List.set_cons_succ]
  clear s0
  iterate 1 (refine plan_take (v := ?_) rfl (by kernel_rfl) ?_ ?_; rotate_left; (focus (intro w' hw'; try go_simp; try with_reducible rfl)); simp only [Act.put, List.setIfInBounds_toArray, List.set_cons_zero, List.set_cons_succ])
  clear hu
  refine plan_turn rfl (by kernel_rfl) (fun K hK => ?_)
  go_simp
  have hgb1 : gb < w1.heap.size := Nat.lt_of_lt_of_le hlt hb1.size
  refine hK _ _ ⟨Below.heap_alloc w1 _ gb hgb1, ?_⟩
  clear hK K
  obtain ⟨w2, hw2⟩ : ∃ w2, w2 = w1.alloc (.cells #[.int .i64 src, .int .i64 dst, .slice Au l.length cu, .bool false] 37) := ⟨_, rfl⟩
  have hrd := reads_pc w1 37 ⟨src, dst, l, false⟩ (.slice Au l.length cu) w1.heap.size rfl
  have hsz2 : w2.heap.size = w1.heap.size + 1 := by rw [hw2]; simp
  have h02 : Below W.heap.size W w2 := by rw [hw2]; exact (((Below.refl W.heap.size W).drew).trans hb1).alloc hb1.size _
  have hu2 : RdB w2 (fun k => W.heap.size ≤ k ∧ k < w2.heap.size) (.slice Au l.length cu) l := by
    rw [hw2]
    exact (HU.out.keeps (H := fun _ => False) (Keeps.of_below ((Below.refl _ _).alloc (Nat.le_refl _) _)) (fun _ _ h => h)).mono (fun b hb => ⟨hb.1, by simp; omega⟩)
  have ho2 : w2.ownsRow 0 37 4 (.slice Av m cv) m (pcC L) := by rw [HMM.out]; exact (Keeps.of_below h02).row H2.out (fun _ _ h => h)
  have hgw2 : w2.heap[gb]? = W.heap[gb]? := h02.block gb hlt
  rw [← hw2] at hrd ⊢
  clear hw2
  have H02 := Lib.hid h02
  have HU2 := Lib.hid hu2
  have HO2 := Lib.hid ho2
  have HRD := Lib.hid hrd
  clear h02 hu2 ho2 hrd hb1 HU
  refine plan_turn rfl (by kernel_rfl) (fun K hK => ?_)
  refine wp_append_any w2 (.tmp 24) (.tmp 30) 48 rfl 0 37 i0 _ 4 48 Try.underlying48 hi0 hz0 hz1 hz2 rfl (by decide) (.slice Av m cv) m (pcC L) rfl HO2.out (w1.heap.size + 1) (some ⟨w1.heap.size, 0, none⟩) 1 1 (pcV (⟨src, dst, l, false⟩, .slice Au l.length cu)) rfl HRD.out (one_pc _ _ rfl) (by unfold maxLen; have := HFU.out; have := HMM.out; omega) (by have := HFU.out; have := HMM.out; omega) (Nat.zero_le _) (fun v3 w3 hown hgrow hat => ?_)
  have hvb : (Value.slice Av L.length cv).ownBlock ≠ some gb := row_ne_blk H2.out H1.out (by decide)
  have hvb2 : some gb ≠ (Value.slice Av m cv).ownBlock := fun e => hvb (by rw [← HMM.out]; exact e.symm)
  have hg3 : w3.heap[gb]? = w2.heap[gb]? := hgrow.block gb (by omega) hvb2
  refine hK _ _ ⟨hg3, ?_⟩
  have hbk3 : Blk w3 gb 63 #[.slice Av L.length cv, .int .i64 lost] := (hg3.trans hgw2).trans H1.out
  obtain ⟨A3, c3, e3⟩ := prow_form hown
  subst e3
  have HOWN := Lib.hid hown
  have HGR := Lib.hid hgrow
  have HAT := Lib.hid hat
  have f3 := Blk.frozen hbk3 0
  have k3 := hbk3.cell 0
  have l3 := hbk3.lt
  simp only [List.getElem?_toArray, List.getElem?_cons_zero] at k3
  clear hK K hown hgrow hat hvb hvb2 hg3 hbk3 hgw2
  simp only [Act.put, List.setIfInBounds_toArray, List.set_cons_zero, List.set_cons_succ]
  iterate 2 (refine plan_take (v := ?_) rfl (by kernel_rfl) ?_ ?_; rotate_left; (focus (intro w' hw'; try go_simp; try with_reducible rfl)); simp only [Act.put, List.setIfInBounds_toArray, List.set_cons_zero, List.set_cons_succ])
  refine plan_last rfl (by kernel_rfl) (by kernel_rfl) (fun K hK => ?_)
  go_simp
  refine hK _ _ ?_
  clear hK K f3 k3 l3
  refine plan_end ?_
  go_wp2_with fail
  go_ret
  refine ⟨rfl, .slice Au l.length cu, bag_push HB.out H1.out H2.out H3.out H02.out HU2.out (by rw [← HMM.out]; exact HOWN.out) (by rw [← HMM.out]; exact HGR.out) (by rw [← HMM.out]; exact HAT.out)⟩
end Go.Proofs.Ytnnajaomajgoeaa
