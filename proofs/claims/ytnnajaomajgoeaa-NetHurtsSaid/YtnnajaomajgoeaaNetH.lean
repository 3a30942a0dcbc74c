/- Double. -/
import Derived.Test.YtnnajaomajgoeaaNetG
namespace Go.Proofs.Ytnnajaomajgoeaa
open Go.RowKit Go.ChangeShapes

theorem double_no (gb : Nat) (L : List (Pc × Value)) (lost i : Int) (F : Nat → Prop) (W : World) (h : BagAt W gb L lost F) (hi : hereB i L.length = false) :
    Calls Try.prog 14 #[.pointer (some ⟨gb, 0, none⟩), .int .i64 i] W fun e w' => e = .returned (.bool false) ∧ W = w' := by
  have HB := Lib.hid h
  have HI := Lib.hid hi
  clear h hi
  go_enter Try.func14, Try.ntmps14
  go_wp2_with fail
  refine (bthere_any gb L lost i F _ HB.out).mono ?_
  rintro e w' ⟨rfl, rfl⟩
  rw [HI.out]
  go_wp2_with fail
  go_ret
  exact ⟨rfl, rfl⟩
theorem double_full (gb : Nat) (L : List (Pc × Value)) (lost i : Int) (F : Nat → Prop) (W : World) (h : BagAt W gb L lost F) (hi : hereB i L.length = true) (hf : 4096 ≤ L.length) :
    Calls Try.prog 14 #[.pointer (some ⟨gb, 0, none⟩), .int .i64 i] W fun e w' => e = .returned (.bool false) ∧ W = w' := by
  have HB := Lib.hid h
  have HI := Lib.hid hi
  have HF := Lib.hid hf
  clear h hi hf
  go_enter Try.func14, Try.ntmps14
  go_wp2_with fail
  refine (bthere_any gb L lost i F _ HB.out).mono ?_
  rintro e w' ⟨rfl, rfl⟩
  rw [HI.out]
  go_wp2_with fail
  refine (full_any gb L lost F _ HB.out).mono ?_
  rintro e w' ⟨rfl, rfl⟩
  rw [decide_eq_true HF.out]
  go_wp2_with fail
  go_ret
  exact ⟨rfl, rfl⟩
theorem here_lt {k n : Nat} (h : k < n) : hereB (k : Int) n = true := by
  unfold hereB
  rw [decide_eq_true (by omega), decide_eq_true (by omega)]
  rfl
set_option maxHeartbeats 1000000 in
theorem double_yes (gb : Nat) (L : List (Pc × Value)) (lost : Int) (k : Nat) (p : Pc) (u0 : Value) (F : Nat → Prop) (W : World) (h : BagAt W gb L lost F) (hf : L.length < 4096) (hx : L[k]? = some (p, u0)) :
    Calls Try.prog 14 #[.pointer (some ⟨gb, 0, none⟩), .int .i64 (k : Int)] W fun e w' => e = .returned (.bool true) ∧ ∃ u F', BagAt w' gb (L ++ [(p, u)]) lost F' ∧ (∀ b, F' b → F b ∨ W.heap.size ≤ b) ∧ Keeps F W w' := by
  obtain ⟨i0, hi0, hz0, hz1, hz2⟩ := info_parts info_pc
  have hk := (List.getElem?_eq_some_iff.1 hx).1
  have hrd := h.rd (p, u0) (List.mem_of_getElem? hx)
  obtain ⟨Au, mu, cu, rfl⟩ := hrd.sl
  have HB := Lib.hid h
  obtain ⟨v, h1, h2, h3⟩ := h.own
  have H1 := Lib.hid h1
  have H2 := Lib.hid h2
  have H3 := Lib.hid h3
  rcases h2.2 with ⟨rfl, h0⟩ | ⟨g, cap, cur, rfl, _, hg, hcap, hm, hs, hl⟩
  · omega
  have hgb : Blk W g 37 cur := hg
  have r0 := (hgb.cell (k * 4)).trans ((pcC_cell hl hx 0 (by decide)).trans rfl)
  have r1 := (hgb.cell (k * 4 + 1)).trans ((pcC_cell hl hx 1 (by decide)).trans rfl)
  have r2 := (hgb.cell (k * 4 + 2)).trans ((pcC_cell hl hx 2 (by decide)).trans rfl)
  have r3 := (hgb.cell (k * 4 + 3)).trans ((pcC_cell hl hx 3 (by decide)).trans rfl)
  simp only [pcV, List.getElem?_cons_zero, List.getElem?_cons_succ] at r0 r1 r2 r3
  have HFU := Lib.hid hf
  have HRD := Lib.hid hrd
  have HHERE := Lib.hid (here_lt hk)
  have hlt := h1.lt
  obtain ⟨m, hmm⟩ : ∃ m, m = L.length := ⟨_, rfl⟩
  have s0 : ∀ W' : World, W'.heap[gb]? = W.drew.heap[gb]? → W'.cell? ⟨gb, 0, none⟩ = some (.slice (some ⟨g, 0, none⟩) m cap) := fun W' h => (World.cell?_of_block (a := ⟨gb, 0, none⟩) h).trans (by rw [hmm]; exact h1.cell 0)
  have HMM := Lib.hid hmm
  rw [← hmm] at hk
  have hkI : (k : Int) < (m : Int) := by omega
  have hkI0 : (0 : Int) ≤ (k : Int) := by omega
  clear h h1 h2 h3 hf hrd hx hg hgb hcap hm hs hl hmm
  go_enter Try.func14, Try.ntmps14
  go_wp2_with fail
  refine (bthere_any gb L lost k F _ HB.out).mono ?_
  rintro e w ⟨rfl, rfl⟩
  rw [HHERE.out]
  go_wp2_with fail
  refine (full_any gb L lost F _ HB.out).mono ?_
  rintro e w ⟨rfl, rfl⟩
  rw [decide_eq_false (by have := HFU.out; omega)]
  go_wp2_with fail
  refine wp_region_plan_by (fun u u' => u'.heap[gb]? = u.heap[gb]?) ⟨fun _ => rfl, fun h k => k.trans h⟩ [(0, false), (1, false), (2, false), (3, false), (4, false), (5, false), (6, false), (7, false), (8, false), (9, false), (10, false), (11, true), (12, true), (13, true), (14, true), (15, false), (16, false), (17, true)] (by kernel_rfl) (by kernel_rfl) (fun _ d _ _ _ h => by cases d <;> exact h) ?_
  iterate 11 (refine plan_take (v := ?_) rfl (by kernel_rfl) ?_ ?_; rotate_left; (focus (intro w' hw'; try go_simp; try with_reducible rfl)); simp only [Act.put, List.setIfInBounds_toArray, List.set_cons_zero, List.set_cons_succ])
  refine plan_turn rfl (by kernel_rfl) (fun K hK => ?_)
  go_simp
  refine hK _ _ ⟨rfl, ?_⟩
  clear hK K r0 r1 r2 r3
  refine plan_call rfl (by kernel_rfl) (by go_simp; exact ⟨rfl, rfl⟩) ?_
  refine (like_any p _ _ W.drew (show RdB W.drew (fun b => F b ∧ b ≠ gb) (.slice Au mu cu) p.byt from HRD.out)).mono ?_
  rintro e w1 ⟨u, rfl, hu, hb1⟩
  obtain ⟨Av, mv, cv, rfl⟩ := hu.sl
  have HU := Lib.hid hu
  refine ⟨_, rfl, hb1.block gb hlt, ?_⟩
  simp only [Act.put, List.setIfInBounds_toArray, List.set_cons_zero, List.set_cons_succ]
  clear s0
  clear hu
  refine plan_turn rfl (by kernel_rfl) (fun K hK => ?_)
  go_simp
  have hgb1 : gb < w1.heap.size := Nat.lt_of_lt_of_le hlt hb1.size
  refine hK _ _ ⟨Below.heap_alloc w1 _ gb hgb1, ?_⟩
  clear hK K
  obtain ⟨w2, hw2⟩ : ∃ w2, w2 = w1.alloc (.cells #[.int .i64 p.src, .int .i64 p.dst, .slice Av mv cv, .bool p.hurt] 37) := ⟨_, rfl⟩
  have hrd := reads_pc w1 37 p (.slice Av mv cv) w1.heap.size rfl
  have hsz2 : w2.heap.size = w1.heap.size + 1 := by rw [hw2]; simp
  have h02 : Below W.heap.size W w2 := by rw [hw2]; exact (((Below.refl W.heap.size W).drew).trans hb1).alloc hb1.size _
  have hu2 : RdB w2 (fun k => W.heap.size ≤ k ∧ k < w2.heap.size) (.slice Av mv cv) p.byt := by
    rw [hw2]
    exact (HU.out.keeps (H := fun _ => False) (Keeps.of_below ((Below.refl _ _).alloc (Nat.le_refl _) _)) (fun _ _ h => h)).mono (fun b hb => ⟨hb.1, by simp; exact Nat.lt_succ_of_lt hb.2⟩)
  have ho2 : w2.ownsRow 0 37 4 (.slice (some ⟨g, 0, none⟩) m cap) m (pcC L) := by rw [HMM.out]; exact (Keeps.of_below h02).row H2.out (fun _ _ h => h)
  have hgw2 : w2.heap[gb]? = W.heap[gb]? := h02.block gb hlt
  rw [← hw2] at hrd ⊢
  clear hw2
  have H02 := Lib.hid h02
  have HU2 := Lib.hid hu2
  have HO2 := Lib.hid ho2
  have HRD := Lib.hid hrd
  clear h02 hu2 ho2 hrd hb1 HU
  refine plan_turn rfl (by kernel_rfl) (fun K hK => ?_)
  refine wp_append_any w2 (.tmp 17) (.tmp 26) 48 rfl 0 37 i0 _ 4 48 Try.underlying48 hi0 hz0 hz1 hz2 rfl (by decide) (.slice (some ⟨g, 0, none⟩) m cap) m (pcC L) rfl HO2.out (w1.heap.size + 1) (some ⟨w1.heap.size, 0, none⟩) 1 1 (pcV (p, .slice Av mv cv)) rfl HRD.out (one_pc _ _ rfl) (by unfold maxLen; have := HFU.out; have := HMM.out; omega) (by have := HFU.out; have := HMM.out; omega) (Nat.zero_le _) (fun v3 w3 hown hgrow hat => ?_)
  have hvb : (Value.slice (some ⟨g, 0, none⟩) L.length cap).ownBlock ≠ some gb := row_ne_blk H2.out H1.out (by decide)
  have hvb2 : some gb ≠ (Value.slice (some ⟨g, 0, none⟩) m cap).ownBlock := fun e => hvb (by rw [← HMM.out]; exact e.symm)
  have hg3 : w3.heap[gb]? = w2.heap[gb]? := hgrow.block gb (by omega) hvb2
  refine hK _ _ ⟨hg3, ?_⟩
  have hbk3 : Blk w3 gb 63 #[.slice (some ⟨g, 0, none⟩) L.length cap, .int .i64 lost] := (hg3.trans hgw2).trans H1.out
  obtain ⟨A3, c3, e3⟩ := prow_form hown
  subst e3
  have HOWN := Lib.hid hown
  have HGR := Lib.hid hgrow
  have HAT := Lib.hid hat
  have f3 := Blk.frozen hbk3 0
  have k3 := hbk3.cell 0
  have l3 := hbk3.lt
  simp only [List.getElem?_toArray, List.getElem?_cons_zero] at k3
  clear hK K hown hgrow hat hvb hvb2 hg3 hbk3 hgw2
  simp only [Act.put, List.setIfInBounds_toArray, List.set_cons_zero, List.set_cons_succ]
  iterate 2 (refine plan_take (v := ?_) rfl (by kernel_rfl) ?_ ?_; rotate_left; (focus (intro w' hw'; try go_simp; try with_reducible rfl)); simp only [Act.put, List.setIfInBounds_toArray, List.set_cons_zero, List.set_cons_succ])
  refine plan_last rfl (by kernel_rfl) (by kernel_rfl) (fun K hK => ?_)
  go_simp
  refine hK _ _ ?_
  clear hK K f3 k3 l3
  refine plan_end ?_
  go_wp2_with fail
  go_ret
  refine ⟨rfl, .slice Av mv cv, bag_push HB.out H1.out H2.out H3.out H02.out HU2.out (by rw [← HMM.out]; exact HOWN.out) (by rw [← HMM.out]; exact HGR.out) (by rw [← HMM.out]; exact HAT.out)⟩
end Go.Proofs.Ytnnajaomajgoeaa
