/- The reference's bag: Take. -/
import Derived.Test.YtnnajaomajgoeaaNetR
namespace Go.Proofs.Ytnnajaomajgoeaa
open Go.RowKit Go.ChangeShapes

theorem rq_erase (Q : List Pc) (k : Nat) (hk : k < Q.length) : pcC (rq (Q.eraseIdx k)) = pcC (rq (Q.take k)) ++ pcC (rq ((Q.drop (k + 1)).take (Q.length - (k + 1)))) := by
  rw [List.take_of_length_le (l := Q.drop (k + 1)) (by rw [List.length_drop]; exact Nat.le_refl _), ← pcC_append, ← rq_append, List.eraseIdx_eq_take_drop_succ]
section
variable (xb : Nat) (Q : List Pc) (lost : Int) (F : Nat → Prop) (W : World)
theorem rtake_no (i : Int) (h : RAt W xb Q lost F) (hi : hereB i Q.length = false) :
    Calls Try.prog 11 #[.pointer (some ⟨xb, 0, none⟩), .int .i64 i] W fun e w' => e = .returned (.tuple #[.agg #[.int .i64 0, .int .i64 0, .string ⟨#[]⟩, .bool false], .bool false]) ∧ Below W.heap.size W w' := by
  have HB := Lib.hid h
  have HI := Lib.hid hi
  clear h hi
  go_enter Try.func11, Try.ntmps11
  go_wp2_with fail
  refine (rhas_any xb Q lost F _ i (HB.out.below ((Below.refl _ W).alloc (Nat.le_refl _) _))).mono ?_
  rintro e w' ⟨rfl, rfl⟩
  rw [HI.out]
  go_wp2_with fail
  refine bodyPost_ret (v := .tuple #[.agg #[.int .i64 0, .int .i64 0, .string ⟨#[]⟩, .bool false], .bool false]) (by simp [results, Try.results11, go_sem]) rfl ?_
  exact ⟨rfl, (Below.refl _ W).alloc (Nat.le_refl _) _⟩
set_option maxHeartbeats 2000000 in
theorem rtake_yes (k : Nat) (p : Pc) (h : RAt W xb Q lost F) (hq : Q.length ≤ 4096) (hx : Q[k]? = some p) :
    Calls Try.prog 11 #[.pointer (some ⟨xb, 0, none⟩), .int .i64 (k : Int)] W fun e w' => e = .returned (.tuple #[.agg #[.int .i64 p.src, .int .i64 p.dst, .string (strB p.byt), .bool p.hurt], .bool true]) ∧ ∃ F', RAt w' xb (Q.eraseIdx k) lost F' ∧ Moved F F' W w' := by
  obtain ⟨i0, hi0, hz0, hz1, hz2⟩ := info_parts info_rp
  obtain ⟨g, cap, cur, o⟩ := h.opened hx
  have HB := Lib.hid h
  have HO := Lib.hid o
  have HQ := Lib.hid hq
  have HX := Lib.hid hx
  have hk := o.lt
  have HK := Lib.hid hk
  have HHERE := Lib.hid (here_lt hk)
  have c0 := o.bag.cell 0
  have r0 := o.c0
  have r1 := o.c1
  have r2 := o.c2
  have r3 := o.c3
  have hlt := o.bag.lt
  have hltg := o.row.lt
  have hcap := o.len
  have hcm : cap ≤ 9223372036854775807 := Nat.le_trans o.max (by decide)
  simp only [List.getElem?_toArray, List.getElem?_cons_zero] at c0
  obtain ⟨A, hA, hrd⟩ : ∃ A : Addr, (if cap = k + 1 then some (⟨g, 0, none⟩ : Addr) else some ⟨g, (k + 1) * 4, none⟩) = some A ∧ Hid (Reads W W.heap.size 4 (some A) (Q.length - (k + 1)) (pcC (rq ((Q.drop (k + 1)).take (Q.length - (k + 1)))))) := by
    by_cases hc : cap = k + 1
    · exact ⟨⟨g, 0, none⟩, by simp [hc], o.reads (k + 1) _ (by omega) _ (fun h0 => by omega)⟩
    · exact ⟨⟨g, (k + 1) * 4, none⟩, by simp [hc], o.reads (k + 1) _ (by omega) _ (fun h0 => rfl)⟩
  have hR0 := o.reads 0 k (by omega) (some ⟨g, 0, none⟩) (fun _ => rfl)
  rw [List.drop_zero] at hR0
  have HR0 := Lib.hid hR0
  obtain ⟨n, hn⟩ : ∃ n, n = Q.length := ⟨_, rfl⟩
  have HN := Lib.hid hn
  rw [← hn] at c0 hk hcap
  have HRD : Hid (Reads W W.heap.size 4 (some A) (n - (k + 1)) (pcC (rq ((Q.drop (k + 1)).take (Q.length - (k + 1)))))) := by rw [HN.out]; exact hrd
  have hkI : (k : Int) < (n : Int) := by omega
  have hkI0 : (0 : Int) ≤ (k : Int) := by omega
  have hkI1 : (k : Int) + 1 ≤ (n : Int) := by omega
  have hkI2 : (0 : Int) ≤ (k : Int) + 1 := by omega
  have hkc : k ≤ cap := by omega
  have hw1 : wrap64 ((k : Int) + 1) = (k : Int) + 1 := by unfold wrap64; omega
  have hw2 : IntKind.wrap .i64 ((k : Int) + 1) = (k : Int) + 1 := IntWalk.i64_in _ (by omega)
  obtain ⟨S, hS⟩ : ∃ S, S = strB p.byt := ⟨_, rfl⟩
  rw [← hS] at r2 ⊢
  clear h hq hx o hn hS hR0 hrd
  go_enter Try.func11, Try.ntmps11
  go_wp2_with fail
  refine (rhas_any xb Q lost F _ (k : Int) (HB.out.below ((Below.refl _ W).alloc (Nat.le_refl _) _))).mono ?_
  rintro e w' ⟨rfl, rfl⟩
  rw [HHERE.out]
  go_wp2_with fail
  obtain ⟨W2, hW2⟩ : ∃ W2, W2 = (W.alloc (.cells #[.int .i64 0, .int .i64 0, .string ⟨#[]⟩, .bool false] 41)).alloc (.cells #[.int .i64 p.src, .int .i64 p.dst, .string S, .bool p.hurt] 41) := ⟨_, rfl⟩
  have hb02 : Below W.heap.size W W2 := by rw [hW2]; exact ((Below.refl _ W).alloc (Nat.le_refl _) _).alloc (by simp) _
  have b0 : Blk W2 W.heap.size 41 #[.int .i64 0, .int .i64 0, .string ⟨#[]⟩, .bool false] := by rw [hW2]; exact (Blkf.new_at W _ _ _ rfl).alloc _
  have b1 : Blk W2 (W.heap.size + 1) 41 #[.int .i64 p.src, .int .i64 p.dst, .string S, .bool p.hurt] := by rw [hW2]; exact Blkf.new_at _ _ _ _ (by simp)
  have hs2 : W2.heap.size = W.heap.size + 2 := by rw [hW2]; simp
  have c0 := (hb02.cell (p := ⟨xb, 0, none⟩) hlt).trans c0
  rw [← hW2]
  clear hW2 r0 r1 r2 r3
  have HB02 := Lib.hid hb02
  have HB0 := Lib.hid b0
  have HB1 := Lib.hid b1
  have hlt2 : xb < W2.heap.size := by omega
  have HS2 := Lib.hid hs2
  clear hb02 b0 b1 hs2
  refine wp_region_plan_by (fun u u' => Below W2.heap.size u u') ⟨fun u => Below.refl _ u, fun h k => h.trans k⟩ [(0, false), (2, false), (3, false), (4, false), (5, false), (6, false), (7, false), (9, false), (10, false), (11, false), (12, false), (13, false), (14, false), (15, false), (1, true), (8, true), (16, true), (17, false), (18, false), (19, true)] (by kernel_rfl) (by kernel_rfl) (fun _ d _ _ _ h => by cases d <;> exact h) ?_
  have s0 : ∀ W' : World, Below W2.heap.size W2.drew W' → W'.cell? ⟨xb, 0, none⟩ = some (.slice (some ⟨g, 0, none⟩) n cap) := fun W' h => (h.cell (p := ⟨xb, 0, none⟩) hlt2).trans c0
  iterate 14 (refine plan_take (v := ?_) rfl (by kernel_rfl) ?_ ?_; rotate_left; (focus (intro w' hw'; try go_simp; try with_reducible rfl)); simp only [Act.put, List.setIfInBounds_toArray, List.set_cons_zero, List.set_cons_succ])
  clear s0
  have HC : Hid (Below W2.heap.size W2 W2.drew) := Lib.hid ((Below.refl _ W2).drew)
  generalize W2.drew = y at *
  refine plan_turn rfl (by kernel_rfl) (fun K hK => ?_)
  go_simp
  refine hK _ _ ⟨(Below.refl _ _).alloc HC.out.size _, ?_⟩
  clear hK K
  (try simp only [Act.put, List.setIfInBounds_toArray, List.set_cons_zero, List.set_cons_succ])
  have hE : Below y.heap.size y (y.alloc (.cells #[] 41)) := (Below.refl _ _).alloc (Nat.le_refl _) _
  have HO1 : Hid ((y.alloc (.cells #[] 41)).ownsRow W2.heap.size 41 4 (.slice (some ⟨y.heap.size, 0, none⟩) 0 0) 0 []) := Lib.hid (own_mono (World.ownsRow_made y #[] 0 (Nat.le_refl _) (by unfold maxLen; omega) rfl) HC.out.size)
  have HC := Lib.hid (HC.out.trans (hE.mono HC.out.size))
  clear hE
  generalize y.alloc (.cells #[] 41) = y1 at *
  generalize y.heap.size = g0 at *
  refine plan_turn rfl (by kernel_rfl) (fun K hK => ?_)
  refine wp_append_any y1 (.tmp 20) (.tmp 26) _ rfl W2.heap.size 41 i0 _ 4 40 Try.underlying27 hi0 hz0 hz1 hz2 rfl (by decide) (.slice (some ⟨g0, 0, none⟩) 0 0) 0 [] rfl HO1.out W.heap.size (some ⟨g, 0, none⟩) k cap (pcC (rq (Q.take k))) rfl ((HR0.out.below HB02.out).below (HC.out.mono HB02.out.size)) (one_pcC (rq_one _)) (by unfold maxLen; have := HN.out; have := HQ.out; omega) (by have := HN.out; have := HQ.out; omega) HC.out.size ?_
  intro v2 y2 hown hgrow hat
  refine hK _ _ ⟨(Below.refl _ _).grown hgrow HC.out.size (fun k hk => (HO1.out.lt k hk).1), ?_⟩
  clear hK K
  (try simp only [Act.put, List.setIfInBounds_toArray, List.set_cons_zero, List.set_cons_succ])
  rw [Nat.zero_add, List.nil_append] at hown
  have HC := Lib.hid (HC.out.grown hgrow HC.out.size (fun k hk => (HO1.out.lt k hk).1))
  have HO2 := Lib.hid hown
  clear hown hgrow hat HO1
  refine plan_turn rfl (by kernel_rfl) (fun K hK => ?_)
  refine wp_append_any y2 (.tmp 27) (.tmp 34) _ rfl W2.heap.size 41 i0 _ 4 40 Try.underlying27 hi0 hz0 hz1 hz2 rfl (by decide) v2 k (pcC (rq (Q.take k))) rfl HO2.out W.heap.size (some A) (n - (k + 1)) (cap - (k + 1)) (pcC (rq ((Q.drop (k + 1)).take (Q.length - (k + 1))))) rfl ((HRD.out.below HB02.out).below (HC.out.mono HB02.out.size)) (one_pcC (rq_one _)) (by unfold maxLen; have := HN.out; have := HQ.out; omega) (by have := HN.out; have := HQ.out; omega) HC.out.size ?_
  intro v3 w3 hown hgrow hat
  refine hK _ _ ⟨(Below.refl _ _).grown hgrow HC.out.size (fun k hk => (HO2.out.lt k hk).1), ?_⟩
  clear hK K
  (try simp only [Act.put, List.setIfInBounds_toArray, List.set_cons_zero, List.set_cons_succ])
  have HC := Lib.hid (HC.out.grown hgrow HC.out.size (fun k hk => (HO2.out.lt k hk).1))
  obtain ⟨A3, c3, e3⟩ := prow_form hown
  subst e3
  have HO3 := Lib.hid hown
  have hx3 := (HO.out.bag.below HB02.out hlt).below HC.out hlt2
  have hb0 := HB0.out.below HC.out (by rw [HS2.out]; omega)
  have hb1 := HB1.out.below HC.out (by rw [HS2.out]; omega)
  have f3 := Blk.frozen hx3 0
  have k3 := hx3.cell 0
  have l3 := hx3.lt
  have e0 := hb1.cell 0
  have e1 := hb1.cell 1
  have e2 := hb1.cell 2
  have e3 := hb1.cell 3
  have z0 := hb0.cell 0
  have z1 := hb0.cell 1
  have z2 := hb0.cell 2
  have z3 := hb0.cell 3
  have y0 := Blk.frozen hb0 0
  have y1 := Blk.frozen hb0 1
  have y2 := Blk.frozen hb0 2
  have y3 := Blk.frozen hb0 3
  have HZ := Lib.hid hb0
  have lz := hb0.lt
  have lz1 := hb1.lt
  simp only [List.getElem?_toArray, List.getElem?_cons_zero, List.getElem?_cons_succ] at k3 e0 e1 e2 e3 z0 z1 z2 z3
  clear hx3 hown hgrow hat hb0 hb1 HO2
  iterate 2 (refine plan_take (v := ?_) rfl (by kernel_rfl) ?_ ?_; rotate_left; (focus (intro w' hw'; try go_simp; try with_reducible rfl)); simp only [Act.put, List.setIfInBounds_toArray, List.set_cons_zero, List.set_cons_succ])
  refine plan_last rfl (by kernel_rfl) (by kernel_rfl) (fun K hK => ?_)
  go_simp
  refine hK _ _ ?_
  clear hK K
  refine plan_end ?_
  have n0 : xb ≠ W.heap.size := by omega
  go_wp2_with fail
  have hk4 := HK.out
  have hn4 := HN.out
  have hlen : k + (n - (k + 1)) = (Q.eraseIdx k).length := by rw [List.length_eraseIdx, if_pos hk4, hn4]; omega
  have hbag2 := HB.out.below HB02.out
  obtain ⟨F', hr, hm⟩ := hbag2.store HC.out (v' := .slice A3 (k + (n - (k + 1))) c3) (n := k + (n - (k + 1))) (Q' := Q.eraseIdx k) (by rw [rq_erase Q k hk4]; exact HO3.out) hlen
  have ks : Keeps (fun b => b = W.heap.size) (w3.setCell ⟨xb, 0, none⟩ (.slice A3 (k + (n - (k + 1))) c3)) (((((w3.setCell ⟨xb, 0, none⟩ (.slice A3 (k + (n - (k + 1))) c3)).setCell ⟨W.heap.size, 0, none⟩ (.int .i64 p.src)).setCell ⟨W.heap.size, 1, none⟩ (.int .i64 p.dst)).setCell ⟨W.heap.size, 2, none⟩ (.string S)).setCell ⟨W.heap.size, 3, none⟩ (.bool p.hurt)) :=
    ((((Keeps.refl (fun b => b = W.heap.size) _).setCell (p := ⟨W.heap.size, 0, none⟩) (.inl rfl) _).setCell (p := ⟨W.heap.size, 1, none⟩) (.inl rfl) _).setCell (p := ⟨W.heap.size, 2, none⟩) (.inl rfl) _).setCell (p := ⟨W.heap.size, 3, none⟩) (.inl rfl) _
  refine bodyPost_ret (v := .tuple #[.agg #[.int .i64 p.src, .int .i64 p.dst, .string S, .bool p.hurt], .bool true]) (res_cell_slot Try.results11 _ _ W.heap.size 41 _ _ rfl rfl (Blkf.set_ (Blkf.set_ (Blkf.set_ (Blkf.set_ (HZ.out.far (p := ⟨xb, 0, none⟩) n0.symm _) 0 (.int .i64 p.src)) 1 (.int .i64 p.dst)) 2 (.string S)) 3 (.bool p.hurt)) (by kernel_rfl)) rfl ?_
  have hne : ∀ b, F' b → b ≠ W.heap.size := by
    intro b hb e
    have h2 := HS2.out
    rcases hm.1 b hb with h | h
    · have := HB.out.lt b h
      omega
    · omega
  refine ⟨rfl, F', hr.keeps ks hne, fun b hb => ?_, ?_⟩
  · have h2 := HS2.out
    rcases hm.1 b hb with h | h
    · exact .inl h
    · exact .inr (by omega)
  · exact ((Keeps.of_below HB02.out).same hm.2).trans ks (fun i hi => .inr (by omega))
end
end Go.Proofs.Ytnnajaomajgoeaa
