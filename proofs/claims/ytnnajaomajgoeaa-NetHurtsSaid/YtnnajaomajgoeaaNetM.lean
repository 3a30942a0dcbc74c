/- List: the walk. -/
import Derived.Test.YtnnajaomajgoeaaNetL
namespace Go.Proofs.Ytnnajaomajgoeaa
open Go.RowKit Go.ChangeShapes

theorem pcC_nil {L : List (Pc × Value)} (h : (pcC L).length = 0) : L = [] := by
  rw [pcC_length] at h
  exact List.eq_nil_of_length_eq_zero (by omega)
set_option maxHeartbeats 4000000 in
theorem list_any (gb : Nat) (L : List (Pc × Value)) (lost : Int) (F : Nat → Prop) (W : World) (h : BagAt W gb L lost F) (hL : L.length ≤ 4096) :
    Calls Try.prog 19 #[.pointer (some ⟨gb, 0, none⟩)] W fun e w' => ∃ v M, e = .returned v ∧ M.map (·.1) = L.map (·.1) ∧ ListAt w' W.heap.size v M ∧ Below W.heap.size W w' := by
  obtain ⟨v, h1, h2, _⟩ := h.own
  obtain ⟨A, c, rfl⟩ := prow_form h2
  have c0 := h1.cell 0
  have hl := h1.lt
  have HB := Lib.hid h
  have H2 := Lib.hid h2
  have HL := Lib.hid hL
  simp only [List.getElem?_toArray, List.getElem?_cons_zero] at c0
  obtain ⟨n, hn⟩ : ∃ n, n = L.length := ⟨_, rfl⟩
  have HN := Lib.hid hn
  rw [← hn] at c0 hL
  clear h h1 h2 hn
  go_enter Try.func19, Try.ntmps19
  go_wp2_with fail
  refine (pclone_any A n c L _ HN.out (by omega) (by rw [HN.out]; exact H2.out) (fun x hx => (HB.out.rd x hx).form.1)).mono ?_
  rintro e w0 ⟨v, rfl, ho, hb⟩
  have HB0 := Lib.hid hb
  have HO := Lib.hid ho
  rcases ho.2 with ⟨rfl, h0⟩ | ⟨g, cap, cur, rfl, hgW, hg, hcap, hm, hs, htk⟩
  · subst h0
    have eL : L = [] := List.eq_nil_of_length_eq_zero HN.out.symm
    clear ho hb
    go_wp2_with fail
    go_loopw [15] (fun i wr => i = .int .i64 0 ∧ w0 = wr) (fun _ _ => 0)
    case atStart => exact ⟨rfl, rfl⟩
    case round =>
      obtain ⟨rfl, rfl⟩ := hrel
      go_wp2_with fail
      go_ret
      subst eL
      exact ⟨_, [], rfl, rfl, ⟨HO.out, fun x hx => by simp at hx, List.Pairwise.nil⟩, HB0.out⟩
  have HM := Lib.hid hm
  have HC := Lib.hid hcap
  have HGW := Lib.hid hgW
  clear ho
  have hst : LRel W g cap L 0 w0 := ⟨[], cur, rfl, rfl, hg, hs, by rw [← HN.out]; exact htk, fun x hx => by simp at hx, List.Pairwise.nil, hb⟩
  have HST := Lib.hid hst
  clear hst hg htk hs hm hb hcap hgW
  go_wp2_with fail
  go_loopw [15] (fun i wr => ∃ k : Nat, k ≤ n ∧ i = .int .i64 k ∧ LRel W g cap L k wr) (fun i _ => n - (intOf i).toNat)
  case atStart => exact ⟨0, by omega, rfl, HST.out⟩
  case round =>
    obtain ⟨k, hk, rfl, M, cr, hM, hf, hR, hs, ht, hr, ha, hbw⟩ := hrel
    have HMl := Lib.hid hM
    have HF := Lib.hid hf
    have HRo := Lib.hid hR
    have HS := Lib.hid hs
    have HT := Lib.hid ht
    have HR := Lib.hid hr
    have HA := Lib.hid ha
    have HBW := Lib.hid hbw
    clear hf ha hr hbw
    by_cases hkn : k < n
    · have hx : ∃ p u, L[k]? = some (p, u) := ⟨_, _, List.getElem?_eq_getElem (by rw [← HN.out]; exact hkn)⟩
      obtain ⟨p, u, hx⟩ := hx
      have hx2 : (M ++ L.drop k)[k]? = some (p, u) := by rw [List.getElem?_append_right (by omega), hM, Nat.sub_self, List.getElem?_drop]; exact hx
      obtain ⟨Au, mu, cu, rfl⟩ := (HB.out.rd (p, u) (List.mem_of_getElem? hx)).sl
      have hlen2 : (M ++ L.drop k).length = L.length := by
        have := (List.getElem?_eq_some_iff.1 hx).1
        simp [hM]
        omega
      rw [← hlen2] at ht
      have r0 := (hR.cell (k * 4)).trans ((pcC_cell ht hx2 0 (by decide)).trans rfl)
      have r1 := (hR.cell (k * 4 + 1)).trans ((pcC_cell ht hx2 1 (by decide)).trans rfl)
      have r2 := (hR.cell (k * 4 + 2)).trans ((pcC_cell ht hx2 2 (by decide)).trans rfl)
      have r3 := (hR.cell (k * 4 + 3)).trans ((pcC_cell ht hx2 3 (by decide)).trans rfl)
      simp only [pcV, List.getElem?_cons_zero, List.getElem?_cons_succ] at r0 r1 r2 r3
      have HX := Lib.hid hx
      have hkI : (k : Int) < (n : Int) := by omega
      have hkI0 : (0 : Int) ≤ (k : Int) := by omega
      have hgl := hR.lt
      clear hx hx2 hlen2 ht hM hs hR
      go_wp2_with fail
      refine (like_any p (.slice Au mu cu) F _ (((HB.out.rd (p, .slice Au mu cu) (List.mem_of_getElem? HX.out)).mono (fun b hb => hb.1)).keeps (H := fun _ => False) (Keeps.of_below (HBW.out.alloc HBW.out.size _)) (fun _ _ h => h))).mono ?_
      rintro e w1 ⟨u1, rfl, hu, hb1⟩
      obtain ⟨Av, mv, cv, rfl⟩ := hu.sl
      have hR1 := ((HRo.out.alloc (.cells #[.int .i64 p.src, .int .i64 p.dst, .slice Au mu cu, .bool p.hurt] 37)).below hb1 (by simp; omega))
      have HU := Lib.hid hu
      have HB1 := Lib.hid hb1
      have HR1 := Lib.hid hR1
      have r0 := (hb1.cell (p := ⟨g, k * 4, none⟩) (by simp; omega)).trans ((World.cell?_alloc_lt _ _ _ hgl).trans r0)
      have r1 := (hb1.cell (p := ⟨g, k * 4 + 1, none⟩) (by simp; omega)).trans ((World.cell?_alloc_lt _ _ _ hgl).trans r1)
      have r2 := (hb1.cell (p := ⟨g, k * 4 + 2, none⟩) (by simp; omega)).trans ((World.cell?_alloc_lt _ _ _ hgl).trans r2)
      have r3 := (hb1.cell (p := ⟨g, k * 4 + 3, none⟩) (by simp; omega)).trans ((World.cell?_alloc_lt _ _ _ hgl).trans r3)
      have f0 := Blk.frozen hR1 (k * 4)
      have f1 := Blk.frozen hR1 (k * 4 + 1)
      have f2 := Blk.frozen hR1 (k * 4 + 2)
      have f3 := Blk.frozen hR1 (k * 4 + 3)
      have hgl1 := hR1.lt
      clear hu hb1 hR1
      go_wp2_with fail
      go_roundw
      case rel =>
        refine ⟨k + 1, by omega, by simp, ?_⟩
        have h1 := HB1.out
        have hsz : (wr.alloc (.cells #[.int .i64 p.src, .int .i64 p.dst, .slice Au mu cu, .bool p.hurt] 37)).heap.size = wr.heap.size + 1 := by simp
        have kw : Keeps (fun b => b = g) w1 ((((w1.setCell ⟨g, k * 4, none⟩ (.int .i64 p.src)).setCell ⟨g, k * 4 + 1, none⟩ (.int .i64 p.dst)).setCell ⟨g, k * 4 + 2, none⟩ (.slice Av mv cv)).setCell ⟨g, k * 4 + 3, none⟩ (.bool p.hurt)) :=
          ((((Keeps.refl (fun b => b = g) w1).setCell (p := ⟨g, k * 4, none⟩) (.inl rfl) _).setCell (p := ⟨g, k * 4 + 1, none⟩) (.inl rfl) _).setCell (p := ⟨g, k * 4 + 2, none⟩) (.inl rfl) _).setCell (p := ⟨g, k * 4 + 3, none⟩) (.inl rfl) _
        have k0 : Keeps (fun b => b = g) wr w1 := ((Keeps.refl (fun b => b = g) wr).alloc _).same (Keeps.of_below h1)
        refine LRel.step HX.out HMl.out HF.out HS.out HT.out HR.out HA.out HBW.out hgl HGW.out (k0.same kw) (Blkf.set_ (Blkf.set_ (Blkf.set_ (Blkf.set_ HR1.out _ _) _ _) _ _) _ _) ((HU.out.keeps kw (fun b hb e => ?_)).mono fun b hb => ⟨?_, Nat.lt_of_lt_of_le hb.2 kw.size⟩)
        · have := hb.1
          rw [hsz] at this
          omega
        · have := hb.1
          rw [hsz] at this
          omega
      case measure => simp [intOf]; omega
    · have e : k = n := by omega
      subst e
      go_wp2_with fail
      go_ret
      have hb := HBW.out
      have hM := HMl.out
      have hN := HN.out
      have ht := HT.out
      rw [List.drop_of_length_le (by omega), List.append_nil, ← hN, ← hM] at ht
      refine ⟨.slice (some ⟨g, 0, none⟩) k cap, rfl, M, by rw [HF.out, hN, List.take_length], ⟨⟨pcC_length M, .inr ⟨g, cap, cr, by rw [hM], HGW.out, HRo.out, by rw [hM]; exact HC.out, HM.out, HS.out, ht⟩⟩, fun x hx => (HR.out x hx).mono fun b hb => ⟨hb.1, fun e => hb.2.1 (by simpa [Value.ownBlock] using e.symm), hb.2.2⟩, HA.out⟩, hb⟩
end Go.Proofs.Ytnnajaomajgoeaa
