/- FramesPlay: the law. -/
import Derived.Test.YtihmeehcjdgfgaaFrR
namespace Go.Proofs.Ytihmeehcjdgfgaa
open Go.RowKit Go.Maps

theorem row_at64 {w : World} {a : Option Addr} {len cap : Nat} {z : List Int} (h : IsRow .i64 w a len cap z) (k : Nat) (hk : k < len) : ∃ b o x, a = some ⟨b, o, none⟩ ∧ w.cell? ⟨b, o + k, none⟩ = some (.int .i64 x) ∧ (Lit.int .i64 x).wf = true := by
  rcases h with ⟨_, rfl, _, _⟩ | ⟨x, rfl, hl, hm, hz, hc, hw⟩
  · omega
  · have h0 := hc k (by omega)
    obtain ⟨b, o, spot⟩ := x
    have hspot : spot = none := by simpa [Addr.add] using World.cell?_spot (hc 0 (by omega))
    subst hspot
    have e : (⟨b, o, none⟩ : Addr).add k = ⟨b, o + k, none⟩ := by unfold Addr.add; split <;> simp_all
    rw [e] at h0
    exact ⟨b, o, _, rfl, h0, hw (z.getD k 0) (by rw [List.getD_eq_getElem?_getD, List.getElem?_eq_getElem (by omega)]; exact List.getElem_mem _)⟩
theorem row_len64 {w : World} {a : Option Addr} {len cap : Nat} {z : List Int} (h : IsRow .i64 w a len cap z) : len ≤ 9223372036854775807 := by
  rcases h with ⟨_, rfl, _, _⟩ | ⟨x, rfl, hl, hm, _⟩
  · omega
  · unfold maxLen at hm; omega
def PlayRel (W : World) (sb xb len : Nat) (b n : Int) (i : Value) (wr : World) : Prop := ∃ k : Nat, k ≤ len ∧ i = .int .i64 k ∧ ∃ F G s L T, Both wr W.heap.size sb xb b n F G s L T ∧ Below W.heap.size W wr
/-- The document's cells in a later world. -/
theorem Both.ref0 {w : World} {B sb xb : Nat} {b n : Int} {F G : Nat → Prop} {s : SV} {L T : List Int} (h : Both w B sb xb b n F G s L T) : ∃ A c A' c', (∀ W', Ext w W' → W'.cell? ⟨xb, 0, none⟩ = some (.slice A L.length c)) ∧ (∀ W', Ext w W' → W'.cell? ⟨xb, 1, none⟩ = some (.slice A' T.length c')) := by
  obtain ⟨A, c, A', c', hb, _⟩ := h.ref
  exact ⟨A, c, A', c', fun W' hx => (hx.cell (p := ⟨xb, 0, none⟩) hb.lt).trans (hb.cell 0), fun W' hx => (hx.cell (p := ⟨xb, 1, none⟩) hb.lt).trans (hb.cell 1)⟩
namespace Law
set_option maxRecDepth 100000 in
set_option maxHeartbeats 16000000 in
theorem FramesPlay (f n : Int) (A : Option Addr) (len c : Nat) (z : List Int) (W : World) (hf : (Lit.int .u8 f).wf = true) (hn : (Lit.int .u8 n).wf = true) (hz : IsRow .i64 W A len c z) (_ : 8 * c ≤ 140737488351232) :
    Calls Try.prog 3 #[.int .u8 f, .int .u8 n, .slice A len c] W fun e w' => e = .returned (.bool true) ∧ Below W.heap.size W w' := by
  obtain ⟨f0, f1⟩ := u8_of_wf hf
  obtain ⟨n0, n1⟩ := u8_of_wf hn
  have hlm := row_len64 hz
  have HZ := Lib.hid hz
  clear hf hn hz
  go_enter Try.func3, Try.ntmps3
  go_wp2_with fail
  refine (first_ok _).mono ?_
  rintro e w0 ⟨rfl, hb⟩
  have HB0 := Lib.hid hb
  clear hb
  go_wp2_with fail
  refine (new_yes f (n % 40) _ (by omega) (by omega) (by omega) (by omega)).mono ?_
  rintro e w1 ⟨rfl, hs, hb⟩
  have HS1 := Lib.hid hs
  have HB1 := Lib.hid (HB0.out.trans (hb.mono HB0.out.size))
  have hnat : ((n % 40).toNat : Int) = n % 40 := by omega
  clear hs hb
  go_wp2_with fail
  rw [← hnat]
  refine (rnew f (n % 40).toNat _ (by omega) (by omega) (by omega)).mono ?_
  rintro e w2 ⟨rfl, ⟨G, hr, hG⟩, hb⟩
  have hh : Both w2 W.heap.size (w0.heap.size + 1) w1.heap.size f (n % 40) (fun g => g = w0.heap.size ∨ g = w0.heap.size + 1) G ⟨f, f, f + n % 40, [], []⟩ (freshL f (n % 40).toNat) [] := by
    have h0 := HB0.out.size
    have h1 := HB1.out.size
    have hl : w0.heap.size + 1 < w1.heap.size := HS1.out.bound (.inr rfl)
    refine ⟨HS1.out.keeps (Keeps.of_below (F := fun _ => False) hb) (fun _ _ h => h), hr, OKs.new f (n % 40) (by omega) (by omega), ⟨?_, by simp, fun f => by simp⟩, fun g hg hg2 => ?_, fun g hg => ?_, fun g hg => ?_, Nat.le_trans h1 hb.size⟩
    · show freshL f (n % 40).toNat = [].reverse ++ restL f (f + n % 40)
      unfold restL
      rw [show (f + n % 40 - f).toNat = (n % 40).toNat by omega]; rfl
    · have := hG g hg2
      rcases hg with rfl | rfl <;> omega
    · rcases hg with rfl | rfl <;> omega
    · have := hG g hg; omega
  have HH := Lib.hid hh
  have HB2 := Lib.hid (HB1.out.trans (hb.mono HB1.out.size))
  clear hr hG hb hh HS1 HB1
  generalize w0.heap.size + 1 = sb at HH ⊢
  generalize w1.heap.size = xb at HH ⊢
  clear HB0
  have hn40 : 0 ≤ n % 40 ∧ n % 40 ≤ 39 := by omega
  clear hnat
  generalize n % 40 = m at *
  go_wp2_with fail
  go_loopw [37] (fun i wr => PlayRel W sb xb len f m i wr) (fun i _ => len - (intOf i).toNat)
  case atStart => exact ⟨0, by omega, rfl, _, _, _, _, _, HH.out, HB2.out⟩
  case round =>
    obtain ⟨k, hk, rfl, F, G, s, L, T, hh, hbw⟩ := hrel
    have HH := Lib.hid hh
    have HBW := Lib.hid hbw
    clear hh hbw
    by_cases hkl : k < len
    · obtain ⟨b, o, x, rfl, hx, hxw⟩ := row_at64 HZ.out k hkl
      have hbl : b < W.heap.size := World.block_lt_of_cell? _ _ hx
      have hxr := (HBW.out.cell (p := ⟨b, o + k, none⟩) hbl).trans hx
      have HXW := Lib.hid hxw
      clear hx hbl hxw
      by_cases h150 : 150 ≤ k
      · go_wp2
        go_ret
        exact ⟨rfl, HBW.out⟩
      · by_cases hx0 : x < 0
        · rcases play_take HH.out with ⟨g, L', hL, hc⟩ | ⟨hL, hc⟩
          · subst hL
            go_wp2_with fail
            refine hc.mono ?_
            rintro e w3 ⟨rfl, s', hh, hmt⟩
            have HHF := Lib.hid hh
            have HMT := Lib.hid hmt
            clear hh hmt hc
            go_wp2_with fail
            refine (rtake_some xb G g L' T _ HHF.out.ref (by have := HH.out.small; simp at this; omega) HH.out.small.2).mono ?_
            rintro e w4 ⟨rfl, hr⟩
            obtain ⟨G2, hb4, hk4⟩ := HHF.out.both hr HMT.out
            have HBB := Lib.hid hb4
            generalize hF2 : F = F2 at HBB
            generalize hs2 : s' = s2v at HBB
            generalize hL2 : L' = L2 at HBB
            generalize hT2 : T ++ [g] = T2 at HBB
            have HK : Hid (Keeps (fun g => W.heap.size ≤ g) wr _) := Lib.hid ((HHF.out.keep.mono HH.out.fl).same hk4)
            clear hb4 hk4 hr
            obtain ⟨RA, rc, RA', rc', s1, s2⟩ := HBB.out.drew.ref0
            obtain ⟨QA, qc, QA', qc', t1, t2⟩ := HBB.out.drew.drew.ref0
            have hll : ((L2.length : Nat) : Int) = s2v.end_ - s2v.next + (s2v.given.length : Int) := HBB.out.mt.llen HBB.out.ok
            have htl : T2.length = s2v.taken.length := HBB.out.mt.tlen HBB.out.ok
            have HLL := Lib.hid hll
            clear hll
            go_wp2_with fail
            refine wp_region_plan [(0, false), (2, false), (3, false), (4, false), (5, false), (6, false), (1, true), (7, false), (8, false), (9, false), (11, false), (12, false), (13, false), (14, false), (15, false), (10, true), (16, false), (17, false), (18, false), (19, false), (20, false), (22, false), (23, false), (21, true), (24, true), (25, false), (26, false)] (by kernel_rfl) (by kernel_rfl) (fun _ d _ _ _ h => by cases d <;> exact h) ?_
            iterate 6 (refine plan_take (v := ?_) rfl (by kernel_rfl) ?_ ?_; rotate_left; (focus (intro w' hw'; go_simp; try with_reducible rfl)); simp only [Act.put, List.setIfInBounds_toArray, List.set_cons_zero, List.set_cons_succ])
            refine plan_call rfl (by kernel_rfl) (by go_simp; exact ⟨rfl, rfl⟩) ?_
            refine (free_any sb F2 s2v _ HBB.out.drew.st (by have := HBB.out.ok.lo; have := HBB.out.ok.b0; omega) HBB.out.ok.hi (by have := HBB.out.ok.end_; have := HBB.out.ok.b0; have := HBB.out.ok.n0; omega) (by have := HBB.out.ok.sizes; omega)).mono ?_
            rintro e w' ⟨rfl, rfl⟩
            rw [← HLL.out]
            refine ⟨_, rfl, (Keeps.below (F := fun _ => False) ((Keeps.refl _ _).drew) (fun _ h => h.elim) (Nat.le_refl _)), ?_⟩
            simp only [Act.put, List.setIfInBounds_toArray, List.set_cons_zero, List.set_cons_succ]
            iterate 8 (refine plan_take (v := ?_) rfl (by kernel_rfl) ?_ ?_; rotate_left; (focus (intro w' hw'; go_simp; try with_reducible rfl)); simp only [Act.put, List.setIfInBounds_toArray, List.set_cons_zero, List.set_cons_succ])
            refine plan_call rfl (by kernel_rfl) (by go_simp; exact ⟨rfl, rfl⟩) ?_
            refine (used_any sb F2 s2v _ HBB.out.drew.drew.st).mono ?_
            rintro e w' ⟨rfl, rfl⟩
            rw [← htl]
            refine ⟨_, rfl, Ext.refl _, ?_⟩
            simp only [Act.put, List.setIfInBounds_toArray, List.set_cons_zero, List.set_cons_succ]
            iterate 7 (refine plan_take (v := ?_) rfl (by kernel_rfl) ?_ ?_; rotate_left; (focus (intro w' hw'; go_simp; try with_reducible rfl)); simp only [Act.put, List.setIfInBounds_toArray, List.set_cons_zero, List.set_cons_succ])
            refine plan_call rfl (by kernel_rfl) (by go_simp; exact ⟨rfl, rfl⟩) ?_
            refine (taken_any sb F2 s2v x _ HBB.out.drew.drew.st HXW.out).mono ?_
            rintro e w' ⟨rfl, rfl⟩
            refine ⟨_, rfl, Ext.refl _, ?_⟩
            simp only [Act.put, List.setIfInBounds_toArray, List.set_cons_zero, List.set_cons_succ]
            refine plan_call rfl (by kernel_rfl) (by go_simp; exact ⟨rfl, rfl⟩) ?_
            refine (is_any xb G2 L2 T2 x _ HBB.out.drew.drew.ref HBB.out.small.2).mono ?_
            rintro e w' ⟨rfl, rfl⟩
            rw [show decide (x ∈ T2) = decide (x ∈ s2v.taken) by simp only [HBB.out.mt.mem]]
            refine ⟨_, rfl, Ext.refl _, ?_⟩
            simp only [Act.put, List.setIfInBounds_toArray, List.set_cons_zero, List.set_cons_succ]
            iterate 2 (refine plan_take (v := ?_) rfl (by kernel_rfl) ?_ ?_; rotate_left; (focus (intro w' hw'; go_simp; try with_reducible rfl)); simp only [Act.put, List.setIfInBounds_toArray, List.set_cons_zero, List.set_cons_succ])
            refine plan_end ?_
            generalize decide (x ∈ s2v.taken) = qq
            clear s1 s2 t1 t2 htl
            go_wp2
            go_roundw
            case rel => exact ⟨k + 1, hkl, by go_num, F2, G2, s2v, L2, T2, HBB.out.drew.drew, below_step HBW.out HK.out.drew.drew (fun g h => h) HBW.out.size⟩
            case measure => simp [intOf]; omega
          · subst hL
            go_wp2_with fail
            refine hc.mono ?_
            rintro e w3 ⟨rfl, hh⟩
            have HHF := Lib.hid hh
            clear hh hc
            go_wp2_with fail
            refine (rtake_none xb G T _ HHF.out.ref).mono ?_
            rintro e w4 ⟨rfl, rfl⟩
            have HBB := Lib.hid (HHF.out.same HH.out.mt)
            generalize hF2 : F = F2 at HBB
            generalize hG2 : G = G2 at HBB
            generalize hs2 : s = s2v at HBB
            generalize hL2 : ([] : List Int) = L2 at HBB
            generalize hT2 : T = T2 at HBB
            have HK : Hid (Keeps (fun g => W.heap.size ≤ g) wr _) := Lib.hid (HHF.out.keep.mono HH.out.fl)
            obtain ⟨RA, rc, RA', rc', s1, s2⟩ := HBB.out.drew.ref0
            obtain ⟨QA, qc, QA', qc', t1, t2⟩ := HBB.out.drew.drew.ref0
            have hll : ((L2.length : Nat) : Int) = s2v.end_ - s2v.next + (s2v.given.length : Int) := HBB.out.mt.llen HBB.out.ok
            have htl : T2.length = s2v.taken.length := HBB.out.mt.tlen HBB.out.ok
            have HLL := Lib.hid hll
            clear hll
            go_wp2_with fail
            refine wp_region_plan [(0, false), (2, false), (3, false), (4, false), (5, false), (6, false), (1, true), (7, false), (8, false), (9, false), (11, false), (12, false), (13, false), (14, false), (15, false), (10, true), (16, false), (17, false), (18, false), (19, false), (20, false), (22, false), (23, false), (21, true), (24, true), (25, false), (26, false)] (by kernel_rfl) (by kernel_rfl) (fun _ d _ _ _ h => by cases d <;> exact h) ?_
            iterate 6 (refine plan_take (v := ?_) rfl (by kernel_rfl) ?_ ?_; rotate_left; (focus (intro w' hw'; go_simp; try with_reducible rfl)); simp only [Act.put, List.setIfInBounds_toArray, List.set_cons_zero, List.set_cons_succ])
            refine plan_call rfl (by kernel_rfl) (by go_simp; exact ⟨rfl, rfl⟩) ?_
            refine (free_any sb F2 s2v _ HBB.out.drew.st (by have := HBB.out.ok.lo; have := HBB.out.ok.b0; omega) HBB.out.ok.hi (by have := HBB.out.ok.end_; have := HBB.out.ok.b0; have := HBB.out.ok.n0; omega) (by have := HBB.out.ok.sizes; omega)).mono ?_
            rintro e w' ⟨rfl, rfl⟩
            rw [← HLL.out]
            refine ⟨_, rfl, (Keeps.below (F := fun _ => False) ((Keeps.refl _ _).drew) (fun _ h => h.elim) (Nat.le_refl _)), ?_⟩
            simp only [Act.put, List.setIfInBounds_toArray, List.set_cons_zero, List.set_cons_succ]
            iterate 8 (refine plan_take (v := ?_) rfl (by kernel_rfl) ?_ ?_; rotate_left; (focus (intro w' hw'; go_simp; try with_reducible rfl)); simp only [Act.put, List.setIfInBounds_toArray, List.set_cons_zero, List.set_cons_succ])
            refine plan_call rfl (by kernel_rfl) (by go_simp; exact ⟨rfl, rfl⟩) ?_
            refine (used_any sb F2 s2v _ HBB.out.drew.drew.st).mono ?_
            rintro e w' ⟨rfl, rfl⟩
            rw [← htl]
            refine ⟨_, rfl, Ext.refl _, ?_⟩
            simp only [Act.put, List.setIfInBounds_toArray, List.set_cons_zero, List.set_cons_succ]
            iterate 7 (refine plan_take (v := ?_) rfl (by kernel_rfl) ?_ ?_; rotate_left; (focus (intro w' hw'; go_simp; try with_reducible rfl)); simp only [Act.put, List.setIfInBounds_toArray, List.set_cons_zero, List.set_cons_succ])
            refine plan_call rfl (by kernel_rfl) (by go_simp; exact ⟨rfl, rfl⟩) ?_
            refine (taken_any sb F2 s2v x _ HBB.out.drew.drew.st HXW.out).mono ?_
            rintro e w' ⟨rfl, rfl⟩
            refine ⟨_, rfl, Ext.refl _, ?_⟩
            simp only [Act.put, List.setIfInBounds_toArray, List.set_cons_zero, List.set_cons_succ]
            refine plan_call rfl (by kernel_rfl) (by go_simp; exact ⟨rfl, rfl⟩) ?_
            refine (is_any xb G2 L2 T2 x _ HBB.out.drew.drew.ref HBB.out.small.2).mono ?_
            rintro e w' ⟨rfl, rfl⟩
            rw [show decide (x ∈ T2) = decide (x ∈ s2v.taken) by simp only [HBB.out.mt.mem]]
            refine ⟨_, rfl, Ext.refl _, ?_⟩
            simp only [Act.put, List.setIfInBounds_toArray, List.set_cons_zero, List.set_cons_succ]
            iterate 2 (refine plan_take (v := ?_) rfl (by kernel_rfl) ?_ ?_; rotate_left; (focus (intro w' hw'; go_simp; try with_reducible rfl)); simp only [Act.put, List.setIfInBounds_toArray, List.set_cons_zero, List.set_cons_succ])
            refine plan_end ?_
            generalize decide (x ∈ s2v.taken) = qq
            clear s1 s2 t1 t2 htl
            go_wp2
            go_roundw
            case rel => exact ⟨k + 1, hkl, by go_num, F2, G2, s2v, L2, T2, HBB.out.drew.drew, below_step HBW.out HK.out.drew.drew (fun g h => h) HBW.out.size⟩
            case measure => simp [intOf]; omega
        · by_cases hxt : x ∈ s.taken
          · go_wp2_with fail
            refine (give_ok sb F s x _ HH.out.st HXW.out hxt (by have := HH.out.ok.sizes; omega)).mono ?_
            rintro e w3 ⟨rfl, F2, hs3, hF3, hk3⟩
            have HHF := Lib.hid (HH.out.half hs3 hF3 hk3 (HH.out.ok.back hxt))
            have HMT := Lib.hid (mt_back HH.out.mt HH.out.ok (f := x))
            have hxT := (HH.out.mt.mem x).2 hxt
            clear hs3 hF3 hk3 hxt
            go_wp2_with fail
            refine (rgive_ok xb G x L T _ HHF.out.ref HH.out.small.1 HH.out.small.2 hxT).mono ?_
            rintro e w4 ⟨rfl, hr⟩
            obtain ⟨G2, hb4, hk4⟩ := HHF.out.both hr HMT.out
            have HBB := Lib.hid hb4
            generalize hs2 : s.back x = s2v at HBB
            generalize hL2 : x :: L = L2 at HBB
            generalize hT2 : T.filter (· != x) = T2 at HBB
            have HK : Hid (Keeps (fun g => W.heap.size ≤ g) wr _) := Lib.hid ((HHF.out.keep.mono HH.out.fl).same hk4)
            clear hb4 hk4 hr
            obtain ⟨RA, rc, RA', rc', s1, s2⟩ := HBB.out.drew.ref0
            obtain ⟨QA, qc, QA', qc', t1, t2⟩ := HBB.out.drew.drew.ref0
            have hll : ((L2.length : Nat) : Int) = s2v.end_ - s2v.next + (s2v.given.length : Int) := HBB.out.mt.llen HBB.out.ok
            have htl : T2.length = s2v.taken.length := HBB.out.mt.tlen HBB.out.ok
            have HLL := Lib.hid hll
            clear hll
            go_wp2_with fail
            refine wp_region_plan [(0, false), (2, false), (3, false), (4, false), (5, false), (6, false), (1, true), (7, false), (8, false), (9, false), (11, false), (12, false), (13, false), (14, false), (15, false), (10, true), (16, false), (17, false), (18, false), (19, false), (20, false), (22, false), (23, false), (21, true), (24, true), (25, false), (26, false)] (by kernel_rfl) (by kernel_rfl) (fun _ d _ _ _ h => by cases d <;> exact h) ?_
            iterate 6 (refine plan_take (v := ?_) rfl (by kernel_rfl) ?_ ?_; rotate_left; (focus (intro w' hw'; go_simp; try with_reducible rfl)); simp only [Act.put, List.setIfInBounds_toArray, List.set_cons_zero, List.set_cons_succ])
            refine plan_call rfl (by kernel_rfl) (by go_simp; exact ⟨rfl, rfl⟩) ?_
            refine (free_any sb F2 s2v _ HBB.out.drew.st (by have := HBB.out.ok.lo; have := HBB.out.ok.b0; omega) HBB.out.ok.hi (by have := HBB.out.ok.end_; have := HBB.out.ok.b0; have := HBB.out.ok.n0; omega) (by have := HBB.out.ok.sizes; omega)).mono ?_
            rintro e w' ⟨rfl, rfl⟩
            rw [← HLL.out]
            refine ⟨_, rfl, (Keeps.below (F := fun _ => False) ((Keeps.refl _ _).drew) (fun _ h => h.elim) (Nat.le_refl _)), ?_⟩
            simp only [Act.put, List.setIfInBounds_toArray, List.set_cons_zero, List.set_cons_succ]
            iterate 8 (refine plan_take (v := ?_) rfl (by kernel_rfl) ?_ ?_; rotate_left; (focus (intro w' hw'; go_simp; try with_reducible rfl)); simp only [Act.put, List.setIfInBounds_toArray, List.set_cons_zero, List.set_cons_succ])
            refine plan_call rfl (by kernel_rfl) (by go_simp; exact ⟨rfl, rfl⟩) ?_
            refine (used_any sb F2 s2v _ HBB.out.drew.drew.st).mono ?_
            rintro e w' ⟨rfl, rfl⟩
            rw [← htl]
            refine ⟨_, rfl, Ext.refl _, ?_⟩
            simp only [Act.put, List.setIfInBounds_toArray, List.set_cons_zero, List.set_cons_succ]
            iterate 7 (refine plan_take (v := ?_) rfl (by kernel_rfl) ?_ ?_; rotate_left; (focus (intro w' hw'; go_simp; try with_reducible rfl)); simp only [Act.put, List.setIfInBounds_toArray, List.set_cons_zero, List.set_cons_succ])
            refine plan_call rfl (by kernel_rfl) (by go_simp; exact ⟨rfl, rfl⟩) ?_
            refine (taken_any sb F2 s2v x _ HBB.out.drew.drew.st HXW.out).mono ?_
            rintro e w' ⟨rfl, rfl⟩
            refine ⟨_, rfl, Ext.refl _, ?_⟩
            simp only [Act.put, List.setIfInBounds_toArray, List.set_cons_zero, List.set_cons_succ]
            refine plan_call rfl (by kernel_rfl) (by go_simp; exact ⟨rfl, rfl⟩) ?_
            refine (is_any xb G2 L2 T2 x _ HBB.out.drew.drew.ref HBB.out.small.2).mono ?_
            rintro e w' ⟨rfl, rfl⟩
            rw [show decide (x ∈ T2) = decide (x ∈ s2v.taken) by simp only [HBB.out.mt.mem]]
            refine ⟨_, rfl, Ext.refl _, ?_⟩
            simp only [Act.put, List.setIfInBounds_toArray, List.set_cons_zero, List.set_cons_succ]
            iterate 2 (refine plan_take (v := ?_) rfl (by kernel_rfl) ?_ ?_; rotate_left; (focus (intro w' hw'; go_simp; try with_reducible rfl)); simp only [Act.put, List.setIfInBounds_toArray, List.set_cons_zero, List.set_cons_succ])
            refine plan_end ?_
            generalize decide (x ∈ s2v.taken) = qq
            clear s1 s2 t1 t2 htl
            go_wp2
            go_roundw
            case rel => exact ⟨k + 1, hkl, by go_num, F2, G2, s2v, L2, T2, HBB.out.drew.drew, below_step HBW.out HK.out.drew.drew (fun g h => h) HBW.out.size⟩
            case measure => simp [intOf]; omega
          · go_wp2_with fail
            refine (give_none sb F s x _ HH.out.st HXW.out hxt).mono ?_
            rintro e w3 ⟨rfl, rfl⟩
            go_wp2_with fail
            refine (rgive_no xb G x L T _ HH.out.ref HH.out.small.2 (fun h => hxt ((HH.out.mt.mem x).1 h))).mono ?_
            rintro e w4 ⟨rfl, rfl⟩
            have HBB := Lib.hid HH.out
            generalize hF2 : F = F2 at HBB
            generalize hG2 : G = G2 at HBB
            generalize hs2 : s = s2v at HBB
            generalize hL2 : L = L2 at HBB
            generalize hT2 : T = T2 at HBB
            have HK : Hid (Keeps (fun g => W.heap.size ≤ g) wr _) := Lib.hid (Keeps.refl (fun g => W.heap.size ≤ g) wr)
            obtain ⟨RA, rc, RA', rc', s1, s2⟩ := HBB.out.drew.ref0
            obtain ⟨QA, qc, QA', qc', t1, t2⟩ := HBB.out.drew.drew.ref0
            have hll : ((L2.length : Nat) : Int) = s2v.end_ - s2v.next + (s2v.given.length : Int) := HBB.out.mt.llen HBB.out.ok
            have htl : T2.length = s2v.taken.length := HBB.out.mt.tlen HBB.out.ok
            have HLL := Lib.hid hll
            clear hll
            go_wp2_with fail
            refine wp_region_plan [(0, false), (2, false), (3, false), (4, false), (5, false), (6, false), (1, true), (7, false), (8, false), (9, false), (11, false), (12, false), (13, false), (14, false), (15, false), (10, true), (16, false), (17, false), (18, false), (19, false), (20, false), (22, false), (23, false), (21, true), (24, true), (25, false), (26, false)] (by kernel_rfl) (by kernel_rfl) (fun _ d _ _ _ h => by cases d <;> exact h) ?_
            iterate 6 (refine plan_take (v := ?_) rfl (by kernel_rfl) ?_ ?_; rotate_left; (focus (intro w' hw'; go_simp; try with_reducible rfl)); simp only [Act.put, List.setIfInBounds_toArray, List.set_cons_zero, List.set_cons_succ])
            refine plan_call rfl (by kernel_rfl) (by go_simp; exact ⟨rfl, rfl⟩) ?_
            refine (free_any sb F2 s2v _ HBB.out.drew.st (by have := HBB.out.ok.lo; have := HBB.out.ok.b0; omega) HBB.out.ok.hi (by have := HBB.out.ok.end_; have := HBB.out.ok.b0; have := HBB.out.ok.n0; omega) (by have := HBB.out.ok.sizes; omega)).mono ?_
            rintro e w' ⟨rfl, rfl⟩
            rw [← HLL.out]
            refine ⟨_, rfl, (Keeps.below (F := fun _ => False) ((Keeps.refl _ _).drew) (fun _ h => h.elim) (Nat.le_refl _)), ?_⟩
            simp only [Act.put, List.setIfInBounds_toArray, List.set_cons_zero, List.set_cons_succ]
            iterate 8 (refine plan_take (v := ?_) rfl (by kernel_rfl) ?_ ?_; rotate_left; (focus (intro w' hw'; go_simp; try with_reducible rfl)); simp only [Act.put, List.setIfInBounds_toArray, List.set_cons_zero, List.set_cons_succ])
            refine plan_call rfl (by kernel_rfl) (by go_simp; exact ⟨rfl, rfl⟩) ?_
            refine (used_any sb F2 s2v _ HBB.out.drew.drew.st).mono ?_
            rintro e w' ⟨rfl, rfl⟩
            rw [← htl]
            refine ⟨_, rfl, Ext.refl _, ?_⟩
            simp only [Act.put, List.setIfInBounds_toArray, List.set_cons_zero, List.set_cons_succ]
            iterate 7 (refine plan_take (v := ?_) rfl (by kernel_rfl) ?_ ?_; rotate_left; (focus (intro w' hw'; go_simp; try with_reducible rfl)); simp only [Act.put, List.setIfInBounds_toArray, List.set_cons_zero, List.set_cons_succ])
            refine plan_call rfl (by kernel_rfl) (by go_simp; exact ⟨rfl, rfl⟩) ?_
            refine (taken_any sb F2 s2v x _ HBB.out.drew.drew.st HXW.out).mono ?_
            rintro e w' ⟨rfl, rfl⟩
            refine ⟨_, rfl, Ext.refl _, ?_⟩
            simp only [Act.put, List.setIfInBounds_toArray, List.set_cons_zero, List.set_cons_succ]
            refine plan_call rfl (by kernel_rfl) (by go_simp; exact ⟨rfl, rfl⟩) ?_
            refine (is_any xb G2 L2 T2 x _ HBB.out.drew.drew.ref HBB.out.small.2).mono ?_
            rintro e w' ⟨rfl, rfl⟩
            rw [show decide (x ∈ T2) = decide (x ∈ s2v.taken) by simp only [HBB.out.mt.mem]]
            refine ⟨_, rfl, Ext.refl _, ?_⟩
            simp only [Act.put, List.setIfInBounds_toArray, List.set_cons_zero, List.set_cons_succ]
            iterate 2 (refine plan_take (v := ?_) rfl (by kernel_rfl) ?_ ?_; rotate_left; (focus (intro w' hw'; go_simp; try with_reducible rfl)); simp only [Act.put, List.setIfInBounds_toArray, List.set_cons_zero, List.set_cons_succ])
            refine plan_end ?_
            generalize decide (x ∈ s2v.taken) = qq
            clear s1 s2 t1 t2 htl
            go_wp2
            go_roundw
            case rel => exact ⟨k + 1, hkl, by go_num, F2, G2, s2v, L2, T2, HBB.out.drew.drew, below_step HBW.out HK.out.drew.drew (fun g h => h) HBW.out.size⟩
            case measure => simp [intOf]; omega
    · obtain rfl : k = len := by omega
      go_wp2
      go_ret
      exact ⟨rfl, HBW.out⟩
end Law
end Go.Proofs.Ytihmeehcjdgfgaa
