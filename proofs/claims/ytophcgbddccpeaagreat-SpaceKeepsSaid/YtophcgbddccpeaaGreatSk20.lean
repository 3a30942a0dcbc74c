/- Merged texts: SpcU, SpcV, SpcW, SpcX. -/
import Derived.Test.YtophcgbddccpeaaGreatSk19
import Derived.Test.YtophcgbddccpeaaGreatOpen
/- The law's own look at a buffer: sound. -/
namespace Go.Proofs.YtophcgbddccpeaaGreat
open Go.RowKit

theorem scs_one (x : Sl) : x.cs.all (·.oneCell') = true := by simp [Sl.cs, Value.oneCell']
theorem slot_pte {w : World} {g : Nat} {x : Sl} (h : Blk w g 100 x.cs) : w.rangeAt g 4 (tfP x.lf).cs.toList := fun j v hv => by
  have hj : j < 10 := by
    have := (List.getElem?_eq_some_iff.1 hv).1
    simpa [Pte.cs] using this
  show w.cell? ⟨g, 4 + j, none⟩ = some v
  rw [h.cell, ← hv]
  rcases (show j = 0 ∨ j = 1 ∨ j = 2 ∨ j = 3 ∨ j = 4 ∨ j = 5 ∨ j = 6 ∨ j = 7 ∨ j = 8 ∨ j = 9 by omega) with rfl | rfl | rfl | rfl | rfl | rfl | rfl | rfl | rfl | rfl <;> rfl
theorem mp_pte {w : World} {g : Nat} {m : Mp} (h : Blk w g 102 m.cs) : w.rangeAt g 2 m.p.cs.toList := fun j v hv => by
  have hj : j < 10 := by
    have := (List.getElem?_eq_some_iff.1 hv).1
    simpa [Pte.cs] using this
  show w.cell? ⟨g, 2 + j, none⟩ = some v
  rw [h.cell, ← hv]
  rcases (show j = 0 ∨ j = 1 ∨ j = 2 ∨ j = 3 ∨ j = 4 ∨ j = 5 ∨ j = 6 ∨ j = 7 ∨ j = 8 ∨ j = 9 by omega) with rfl | rfl | rfl | rfl | rfl | rfl | rfl | rfl | rfl | rfl <;> rfl
def mp0 : Mp := ⟨0, 0, pte0⟩
section
variable {W w : World} {os : List Obj} {L : SpL} {s : SpS} {M : List Mp} {T : List Tb}
set_option maxRecDepth 100000 in
set_option maxHeartbeats 4000000 in
theorem sound_any (h : SpOK L s M T) (hO : Objs W (spO L s os) w) :
    Calls Tryz.prog 13 #[.pointer (some ⟨L.sp, 0, none⟩)] w fun e w' => e = .returned (.bool true) ∧ Objs W (spO L s os) w' := by
  obtain ⟨hmem, _, hpg⟩ := h.inv.pages_all
  have hroot : L.root < 1048576 := by rw [h.root]; decide
  have HP := Lib.hid (spages_any h.ul hroot hpg hO)
  have hmem' : ∀ m, m ∈ pagesM L.n s.S 2 L.root 0 ↔ m ∈ M := hmem
  have HPG : Hid (∀ m ∈ pagesM L.n s.S 2 L.root 0, PteWf m.p ∧ m.va < 18446744073709551616) := Lib.hid (fun m hm => by
    obtain ⟨_, g1, _, _, _, g2⟩ := h.inv.pg m ((hmem' m).1 hm)
    exact ⟨g2, g1⟩)
  have HSD : Hid (∀ x ∈ listT 0 s.T, ∃ (j : Nat) (m : Mp), (pagesM L.n s.S 2 L.root 0)[j]? = some m ∧ x.lf.lev = (m.lev : Int) ∧ x.page = vpnV m.va ∧ tfP x.lf = m.p) := Lib.hid (fun x hx => by
    obtain ⟨e, g1, g2, g3, g4⟩ := inT_list s.T 0 hx
    obtain ⟨m, hm, k1, k2, k3⟩ := h.buf e g1 g2
    obtain ⟨j, hj⟩ := List.mem_iff_getElem?.1 ((hmem' m).2 hm)
    exact ⟨j, m, hj, by rw [g4, k1], by rw [g3, k2], by rw [g4, k3]⟩)
  have HOO := Lib.hid hO
  have HLM : Hid ((pagesM L.n s.S 2 L.root 0).length ≤ 512 ^ 3) := Lib.hid (pages_len L.n s.S 2 L.root 0)
  clear hO h hmem hmem' hpg hroot
  generalize pagesM L.n s.S 2 L.root 0 = P at *
  go_enter Tryz.func13, Tryz.ntmps13
  go_wp2_with fail
  refine HP.out.mono ?_
  rintro e w1 ⟨A1, c1, rfl, h1, h2⟩
  have HO1 := Lib.hid (HOO.out.step h2)
  have HR1 : Hid (RdX Mp.vs 12 w1 A1 P) := Lib.hid (RdX.of_own (fun x => rfl) h1 rfl)
  clear h1 h2 HP HOO
  have HS := Lib.hid (slots_any HO1.out)
  go_wp2_with fail
  refine HS.out.mono ?_
  rintro e w2 ⟨A2, c2, rfl, h3, h4, h5⟩
  have HO2 := Lib.hid h4
  have HR2 : Hid (RdX Mp.vs 12 w2 A1 P) := Lib.hid (HR1.out.below h5)
  have HR3 := Lib.hid h3
  clear h3 h4 h5 HS HR1 HO1
  generalize hSL : listT 0 s.T = SL at *
  have HSLl : Hid (SL.length ≤ 512) := Lib.hid (by rw [← hSL]; exact (HO2.out.bufTG 2 rfl).1.slots (List.Perm.refl _))
  clear hSL
  have HLM2 : Hid (P.length ≤ 134217728) := Lib.hid HLM.out
  clear HLM
  go_wp2_with fail
  go_loopw [2, 5, 6, 8, 14] (fun _ _ _ _ i wr => ∃ k : Nat, k ≤ SL.length ∧ i = .int .i64 (k : Int) ∧ Below w2.heap.size w2 wr) (fun _ _ _ _ i _ => SL.length - (intOf i).toNat)
  case atStart => exact ⟨0, Nat.zero_le _, rfl, Below.refl _ _⟩
  case round =>
    obtain ⟨k, hk, rfl, hbel⟩ := hrel
    have HB := Lib.hid hbel
    by_cases hkl : k < SL.length
    · obtain ⟨x, hx⟩ : ∃ x, SL[k]? = some x := ⟨_, List.getElem?_eq_getElem hkl⟩
      obtain ⟨j0, m0, hj0, e1, e2, e3⟩ := HSD.out x (List.mem_of_getElem? hx)
      have hne : SL ≠ [] := fun e => by rw [e] at hkl; simp at hkl
      obtain ⟨b2, hv2, hr2⟩ := HR3.out.range hne
      injection hv2 with hA2 _ _
      subst hA2
      have hpe : P ≠ [] := fun e => by rw [e] at hj0; simp at hj0
      obtain ⟨b1, hA1, hl1, hr1⟩ := HR2.out hpe
      subst hA1
      have hrg := hr2 k x hx
      have HRG : Hid (wr.rangeAt b2 (k * 16) x.cs.toList) := Lib.hid (range_below hrg hbel)
      have hki : (k : Int) < (SL.length : Int) := by omega
      have hnb := (Below.refl wr.heap.size wr).alloc (Nat.le_refl _) (.cells x.cs 100)
      have HNB : Hid (Below w2.heap.size w2 (wr.alloc (.cells x.cs 100))) := Lib.hid (hbel.alloc hbel.size _)
      obtain ⟨xb, hxb⟩ : ∃ q, q = wr.heap.size := ⟨_, rfl⟩
      have HXB : Hid (Blk (wr.alloc (.cells x.cs 100)) xb 100 x.cs) := Lib.hid (Blkf.new_at _ _ _ _ hxb)
      have HXL : Hid (w2.heap.size ≤ xb) := Lib.hid (by rw [hxb]; exact hbel.size)
      have HF := Lib.hid (And.intro hj0 (And.intro e1 (And.intro e2 e3)))
      have HR1 := Lib.hid hr1
      have HKL := Lib.hid hkl
      clear hbel hnb hrg hr2 hr1 hl1 hj0 e1 e2 e3 hx hk hkl HB
      go_upto_region 5 with (first | ((with_reducible refine wl_load 100 (.tmp 16) rfl ?_ b2 (k * 16) x.cs ?_ HRG.out ?_ ?_); exact rfl; exact rfl; exact slot_row x) | ((with_reducible refine wl_store_new 100 (.tmp 5) (.tmp 17) rfl ?_ wr (World.heap wr).size 100 sl0.cs x.cs ?_ ?_ ?_ ?_ ?_ ?_ ?_ ?_); exact rfl; exact rfl; exact rfl; exact rfl; exact rfl; exact rfl; exact slot_row x; exact scs_one x))
      rw [← hxb]
      clear hxb
      generalize wr.alloc (.cells x.cs 100) = w3 at *
      clear HRG
      go_wp2_with fail
      go_loopw [6, 8, 20] (fun b _ i wr => ∃ (j : Nat) (bb : Bool), j ≤ P.length ∧ i = .int .i64 (j : Int) ∧ b = .bool bb ∧ (j ≤ j0 ∨ bb = true) ∧ Below w2.heap.size w2 wr ∧ Blk wr xb 100 x.cs) (fun _ _ i _ => P.length - (intOf i).toNat)
      case atStart => exact ⟨0, false, Nat.zero_le _, rfl, rfl, .inl (Nat.zero_le _), HNB.out, HXB.out⟩
      case round =>
        obtain ⟨j, bb, hj, rfl, rfl, hjj, hbel, hxb⟩ := hrel
        by_cases hjl : j < P.length
        · obtain ⟨m, hm⟩ : ∃ m, P[j]? = some m := ⟨_, List.getElem?_eq_getElem hjl⟩
          have HRG : Hid (wr.rangeAt b1 (j * 12) m.cs.toList) := Lib.hid (range_below (HR1.out j m hm) hbel)
          have hji : (j : Int) < (P.length : Int) := by omega
          obtain ⟨mb, hmb⟩ : ∃ q, q = wr.heap.size := ⟨_, rfl⟩
          have HMB : Hid (Below w2.heap.size w2 (wr.alloc (.cells m.cs 102)) ∧ Blk (wr.alloc (.cells m.cs 102)) xb 100 x.cs ∧ Blk (wr.alloc (.cells m.cs 102)) mb 102 m.cs) := Lib.hid ⟨hbel.alloc hbel.size _, hxb.alloc _, Blkf.new_at _ _ _ _ hmb⟩
          obtain ⟨hwm, hvm⟩ := HPG.out m (List.mem_of_getElem? hm)
          have hwx : PteWf (tfP x.lf) := by
            rw [HF.out.2.2.2]
            exact (HPG.out m0 (List.mem_of_getElem? HF.out.1)).1
          obtain ⟨c1, hc1⟩ : ∃ c1, ((m.lev : Int) == x.lf.lev) = c1 := ⟨_, rfl⟩
          obtain ⟨c2, hc2⟩ : ∃ c2 : Bool, c2 = true ↔ m.p = tfP x.lf := by
            by_cases e : m.p = tfP x.lf
            · exact ⟨true, by simp [e]⟩
            · exact ⟨false, by simp [e]⟩
          obtain ⟨c3, hc3⟩ : ∃ c3, ((x.page : Int) == ((vpnV m.va : Nat) : Int)) = c3 := ⟨_, rfl⟩
          have HC : Hid (j ≤ j0 ∧ (bb = false → j = j0 → c1 = true ∧ c2 = true ∧ c3 = true) ∨ bb = true) := Lib.hid (by
            rcases hjj with hjj | hjj
            · refine .inl ⟨hjj, fun _ ej => ?_⟩
              subst ej
              have he : m = m0 := by have := HF.out.1; rw [hm] at this; injection this
              subst he
              refine ⟨?_, hc2.2 HF.out.2.2.2.symm, ?_⟩
              · rw [← hc1, HF.out.2.1]; simp
              · rw [← hc3, HF.out.2.2.1]; simp
            · exact .inr hjj)
          have hq : ∀ W, (Op.equalIn 10000 96 (.agg m.p.cs) (.agg (tfP x.lf).cs)).run Tryz.prog W = .ok c2 W := fun W => pte_dec m.p (tfP x.lf) hwm hwx c2 hc2 W
          have hand : bits .and .u64 ((m.va : Int) / 4096) 134217727 = ((vpnV m.va : Nat) : Int) := by
            have h : m.va / 4096 ≤ m.va := Nat.div_le_self _ _
            have e := and_mask (m.va / 4096) 27 134217727 (by decide) rfl (by omega)
            rw [show ((m.va : Int) / 4096) = ((m.va / 4096 : Nat) : Int) by omega, e]
            rfl
          have HJ := Lib.hid hjl
          clear hj hjl hjj hbel hxb hm hwm hvm hwx hc2
          generalize ((vpnV m.va : Nat) : Int) = vp at *
          have hjb : j < 134217728 := by have := HLM2.out; have := HJ.out; omega
          go_upto_region 9 with (first | ((with_reducible refine wl_load 102 (.tmp 22) rfl ?_ b1 (j * 12) m.cs ?_ HRG.out ?_ ?_); exact rfl; exact rfl; exact mrow m) | ((with_reducible refine wl_store_new 102 (.tmp 8) (.tmp 23) rfl ?_ wr (World.heap wr).size 102 mp0.cs m.cs ?_ ?_ ?_ ?_ ?_ ?_ ?_ ?_); exact rfl; exact rfl; exact rfl; exact rfl; exact rfl; exact rfl; exact mrow m; exact mcs_one m))
          rw [← hmb]
          clear hmb
          generalize wr.alloc (.cells m.cs 102) = w4 at *
          clear HRG
          have hm0 : w4.cell? ⟨mb, 0, none⟩ = some (.int .u64 (m.va : Int)) := HMB.out.2.2.cell 0
          have hm1 : w4.cell? ⟨mb, 1, none⟩ = some (.int .i64 (m.lev : Int)) := HMB.out.2.2.cell 1
          have hx3 : w4.cell? ⟨xb, 3, none⟩ = some (.int .u64 (x.page : Int)) := HMB.out.2.1.cell 3
          have hx14 : w4.cell? ⟨xb, 14, none⟩ = some (.int .i64 x.lf.lev) := HMB.out.2.1.cell 14
          have hmr := mp_pte HMB.out.2.2
          have hxr := slot_pte HMB.out.2.1
          have hlm := HMB.out.2.2.lt
          have hlx := HMB.out.2.1.lt
          cases bb with
          | true =>
            go_wp2_with (first | ((with_reducible refine wl_load 96 (.tmp 33) rfl ?_ mb 2 m.p.cs ?_ hmr ?_ ?_); exact rfl; exact rfl; exact prow _) | ((with_reducible refine wl_load 96 (.tmp 36) rfl ?_ xb 4 (tfP x.lf).cs ?_ hxr ?_ ?_); exact rfl; exact rfl; exact prow _))
            go_roundw
            case rel => exact ⟨j + 1, true, HJ.out, by go_num, rfl, .inr rfl, HMB.out.1, HMB.out.2.1⟩
            case measure => simp [intOf]; have := HJ.out; omega
          | false =>
            have hcc := HC.out
            clear HC
            cases c1 with
            | false =>
              go_wp2_with (first | ((with_reducible refine wl_load 96 (.tmp 33) rfl ?_ mb 2 m.p.cs ?_ hmr ?_ ?_); exact rfl; exact rfl; exact prow _) | ((with_reducible refine wl_load 96 (.tmp 36) rfl ?_ xb 4 (tfP x.lf).cs ?_ hxr ?_ ?_); exact rfl; exact rfl; exact prow _))
              go_roundw
              case rel => exact ⟨j + 1, false, HJ.out, by go_num, rfl, (by simp at hcc; omega), HMB.out.1, HMB.out.2.1⟩
              case measure => simp [intOf]; have := HJ.out; omega
            | true =>
              cases c2 with
              | false =>
                go_wp2_with (first | ((with_reducible refine wl_load 96 (.tmp 33) rfl ?_ mb 2 m.p.cs ?_ hmr ?_ ?_); exact rfl; exact rfl; exact prow _) | ((with_reducible refine wl_load 96 (.tmp 36) rfl ?_ xb 4 (tfP x.lf).cs ?_ hxr ?_ ?_); exact rfl; exact rfl; exact prow _))
                go_roundw
                case rel => exact ⟨j + 1, false, HJ.out, by go_num, rfl, (by simp at hcc; omega), HMB.out.1, HMB.out.2.1⟩
                case measure => simp [intOf]; have := HJ.out; omega
              | true =>
                go_wp2_with (first | ((with_reducible refine wl_load 96 (.tmp 33) rfl ?_ mb 2 m.p.cs ?_ hmr ?_ ?_); exact rfl; exact rfl; exact prow _) | ((with_reducible refine wl_load 96 (.tmp 36) rfl ?_ xb 4 (tfP x.lf).cs ?_ hxr ?_ ?_); exact rfl; exact rfl; exact prow _))
                go_roundw
                case rel => exact ⟨j + 1, c3, HJ.out, by go_num, rfl, (by cases c3 <;> simp at hcc ⊢; omega), HMB.out.1, HMB.out.2.1⟩
                case measure => simp [intOf]; have := HJ.out; omega
        · obtain rfl : P.length = j := by omega
          have hj0l : j0 < P.length := (List.getElem?_eq_some_iff.1 HF.out.1).1
          have hbt : bb = true := hjj.resolve_left (by omega)
          subst hbt
          have HBX := Lib.hid hbel
          clear hbel hxb hj hjj
          have hkb : k < 600 := by have := HSLl.out; have := HKL.out; omega
          go_wp2_with fail
          go_roundw
          case rel => exact ⟨k + 1, HKL.out, by go_num, HBX.out⟩
          case measure => simp [intOf]; have := HKL.out; omega
    · obtain rfl : SL.length = k := by omega
      clear hbel
      go_wp2_with fail
      go_ret
      exact ⟨rfl, HO2.out.step HB.out⟩
end
end Go.Proofs.YtophcgbddccpeaaGreat

/- What must be answered ahead of everything else. -/
namespace Go.Proofs.YtophcgbddccpeaaGreat
open Go.RowKit

set_option maxRecDepth 100000 in
set_option maxHeartbeats 4000000 in
theorem sfirst_any (W : World) : Calls Tryz.prog 4 #[] W fun e w' => e = .returned (.bool true) ∧ Below W.heap.size W w' := by
  obtain ⟨shb, hshb⟩ : ∃ q, q = W.heap.size := ⟨_, rfl⟩
  have HO0 := Lib.hid ((Objs.nil (Below.refl W.heap.size W)).push #[.int .i64 1, .int .i64 1, .int .i64 3] 26 hshb)
  go_enter Tryz.func4, Tryz.ntmps4
  go_upto_region 2 with fail
  rw [← hshb]
  clear hshb
  generalize W.alloc (.cells #[.int .i64 1, .int .i64 1, .int .i64 3] 26) = w0 at *
  have hbk := HO0.out.drew.blk 0 rfl
  have s0 : ∀ w', SameL [shb] w0.drew w' → w'.cell? ⟨shb, 0, none⟩ = some (.int .i64 1) := fun w' hs => hs.cell (by simp) (hbk.cell 0)
  have s1 : ∀ w', SameL [shb] w0.drew w' → w'.cell? ⟨shb, 1, none⟩ = some (.int .i64 1) := fun w' hs => hs.cell (by simp) (hbk.cell 1)
  have s2 : ∀ w', SameL [shb] w0.drew w' → w'.cell? ⟨shb, 2, none⟩ = some (.int .i64 3) := fun w' hs => hs.cell (by simp) (hbk.cell 2)
  have HLS := Lib.hid hbk.lt
  clear hbk
  go_wp2_with fail
  refine wp_region_plan_by (SameL [shb]) (later_same _) [(0, false), (1, false), (2, true), (3, true), (4, false), (5, false), (6, false), (7, false), (8, false)] (by kernel_rfl) (by kernel_rfl) (fun _ d _ _ _ h => by cases d <;> exact h) ?_
  iterate 2 (refine plan_take (v := ?_) rfl (by kernel_rfl) ?_ ?_; rotate_left; (focus (intro w' hw'; try go_simp; try with_reducible rfl)); simp only [Act.put, List.setIfInBounds_toArray, List.set_cons_zero, List.set_cons_succ])
  clear s0 s1 s2
  refine plan_call rfl (by kernel_rfl) (by go_simp; exact ⟨rfl, rfl⟩) ?_
  refine (need_ok 1 1 3 _ (by decide) (by decide) (by decide) (by decide) (by decide)).mono ?_
  rintro e w1 ⟨rfl, b1⟩
  have HO1 := Lib.hid (HO0.out.drew.step b1)
  refine ⟨_, rfl, (sameL_below b1 HLS.out), ?_⟩
  simp only [Act.put, List.setIfInBounds_toArray, List.set_cons_zero, List.set_cons_succ]
  clear b1
  refine plan_call rfl (by kernel_rfl) (by go_simp; exact ⟨rfl, rfl⟩) ?_
  refine (snew_any 1 1 3 4 2 (by decide) (by decide) (by decide) (by decide) (by decide) (by decide) HO1.out).mono ?_
  rintro e w2 ⟨L, t0, rfl, ⟨_, _, hns, _, _, ⟨M0, T0, hk0⟩, hrt0, hd0⟩, ho2⟩
  have HO2 := Lib.hid ho2
  have HSM : Hid (SameL [shb] w1 w2) := Lib.hid (fun b hb => by
    rw [List.mem_singleton.1 hb]
    exact HO1.out.same ho2 0 10 rfl rfl)
  refine ⟨_, rfl, HSM.out, ?_⟩
  simp only [Act.put, List.setIfInBounds_toArray, List.set_cons_zero, List.set_cons_succ]
  iterate 5 (refine plan_take (v := ?_) rfl (by kernel_rfl) ?_ ?_; rotate_left; (focus (intro w' hw'; try go_simp; try with_reducible rfl)); simp only [Act.put, List.setIfInBounds_toArray, List.set_cons_zero, List.set_cons_succ])
  refine plan_end ?_
  clear ho2 HSM
  have HS1 := Lib.hid (spset_any hk0 HO2.out (p := 2) (by omega) (r := 2) (.inr (.inr rfl)))
  go_wp2_with fail
  refine HS1.out.mono ?_
  rintro e w3 ⟨rfl, t1, M1, T1, hk1, ht1, ho3⟩
  have HO3 := Lib.hid ho3
  have HK1 := Lib.hid hk1
  have hr12 : t1.rt 2 = 2 := by rw [ht1.rt]; rfl
  have HR11 : Hid (t1.rt 1 = 0) := Lib.hid (by rw [ht1.rt]; exact hrt0 1)
  have HD1 : Hid (t1.data 2 = zeroL) := Lib.hid (by rw [ht1.data, hd0])
  have HU1 := Lib.hid (unit_any ho3)
  have HNS := Lib.hid hns
  have hrt12 := Lib.hid hr12
  have HST1 := Lib.hid (spstore_any (v := 7) hk1 ho3 (p := 2) (o := 8) (by omega) (by decide) (by decide) (by decide) 0 (by decide))
  rw [hr12, show okRt 2 2 = true from rfl, if_pos rfl, show ((vaN 2 + 8 : Nat) : Int) = 1073750024 from rfl] at HST1
  clear ho3 hk1 ht1 hr12 hk0 hrt0 hd0 HS1 hns
  go_wp2_with fail
  refine HU1.out.mono ?_
  rintro e w4 ⟨rfl, rfl⟩
  go_wp2_with fail
  refine HST1.out.mono ?_
  rintro e w4 ⟨rfl, t2, hk2, hrt2, hd2, ho4⟩
  have HK2 := Lib.hid hk2
  have HO4 := Lib.hid ho4
  have HR22 : Hid (t2.rt 2 = 2 ∧ t2.rt 1 = 0) := Lib.hid ⟨by rw [hrt2]; rw [show t1.rt 2 = 2 from hrt12.out], by rw [hrt2]; exact HR11.out⟩
  have HD2 : Hid (t2.data 2 = putL zeroL 8 7 8) := Lib.hid (by rw [hd2, if_pos ⟨rfl, by trivial⟩, HD1.out])
  have HS2 := Lib.hid (spset_any hk2 ho4 (p := 2) (by have := HNS.out; omega) (r := 1) (.inr (.inl rfl)))
  clear hk2 hrt2 hd2 ho4 HO3 HU1 HST1
  go_wp2_with fail
  refine HS2.out.mono ?_
  rintro e w5 ⟨rfl, t3, M2, T2, hk3, ht3, ho5⟩
  have HR3 : Hid (t3.rt 2 = 1 ∧ t3.rt 1 = 0) := Lib.hid ⟨by rw [ht3.rt]; rfl, by rw [ht3.rt]; exact HR22.out.2⟩
  have HD3 : Hid (t3.data 2 = putL zeroL 8 7 8) := Lib.hid (by rw [ht3.data, HD2.out])
  have HU2 := Lib.hid (unit_any ho5)
  have HST2 := Lib.hid (spstore_any (v := 8) hk3 ho5 (p := 2) (o := 8) (by have := HNS.out; omega) (by decide) (by decide) (by decide) 0 (by decide))
  rw [HR3.out.1, show okRt 1 2 = false from rfl, if_neg (by decide), show ((vaN 2 + 8 : Nat) : Int) = 1073750024 from rfl] at HST2
  clear hk3 ht3 ho5 HS2 HO4
  go_wp2_with fail
  refine HU2.out.mono ?_
  rintro e w6 ⟨rfl, rfl⟩
  go_wp2_with fail
  refine HST2.out.mono ?_
  rintro e w6 ⟨rfl, t4, hk4, hrt4, hd4, ho6⟩
  have HR4 : Hid (t4.rt 2 = 1 ∧ t4.rt 1 = 0) := Lib.hid ⟨by rw [hrt4]; exact HR3.out.1, by rw [hrt4]; exact HR3.out.2⟩
  have HD4 : Hid (t4.data 2 = putL zeroL 8 7 8) := Lib.hid (by rw [hd4, if_neg (fun x => by cases x.2), HD3.out])
  have HU3 := Lib.hid (unit_any ho6)
  have HLD := Lib.hid (spload_any hk4 ho6 (p := 2) (o := 8) (by have := HNS.out; omega) (by decide) (by decide) 0 (by decide))
  have hw7 : getV (putL zeroL 8 7 8) ((8 : Nat) : Int) 8 = 7 := put_word zero_len (by decide) (by decide) (by decide)
  rw [HR4.out.1, show okRt 1 1 = true from rfl, if_pos rfl, if_pos rfl, HD4.out, hw7, show ((vaN 2 + 8 : Nat) : Int) = 1073750024 from rfl] at HLD
  clear hk4 hrt4 hd4 ho6 HU2 HST2 hw7
  go_wp2_with fail
  refine HU3.out.mono ?_
  rintro e w7 ⟨rfl, rfl⟩
  go_wp2_with fail
  refine HLD.out.mono ?_
  rintro e w7 ⟨rfl, B5, hk5, ho7⟩
  have HWH := Lib.hid (which_yes 1073754111 (by decide) (by decide) (by have := HNS.out; show 2 < L.ns; omega) (by have := hk5.ns; omega) ho7)
  rw [show (((1073754111 - 1073741824) / 4096 : Nat) : Int) = 2 from rfl] at HWH
  have HU4 := Lib.hid (unit_any ho7)
  have HK5 := Lib.hid hk5
  have HLD2 := Lib.hid (spload_any hk5 ho7 (p := 1) (o := 0) (by have := HNS.out; omega) (by decide) (by decide) 0 (by decide))
  rw [show SpS.rt { t4 with T := B5 } 1 = 0 from HR4.out.2, show okRt 0 1 = false from rfl, if_neg (by decide), if_neg (by decide), show ((vaN 1 + 0 : Nat) : Int) = 1073745920 from rfl] at HLD2
  clear hk5 ho7 HU3 HLD
  go_wp2_with fail
  refine HWH.out.mono ?_
  rintro e w8 ⟨rfl, rfl⟩
  go_wp2_with fail
  refine HU4.out.mono ?_
  rintro e w8 ⟨rfl, rfl⟩
  go_wp2_with fail
  refine HLD2.out.mono ?_
  rintro e w8 ⟨rfl, B6, hk6, ho8⟩
  have HO8 := Lib.hid ho8
  have HDA := Lib.hid (data_any 2 (by have := HNS.out; omega) (by have := hk6.ns; omega) (fun f hf => by
    obtain ⟨_, g, e, _, hg, _⟩ := hk6.shv 2 f hf
    have := hk6.kn
    exact ⟨g, e, by omega⟩) ho8)
  rw [show SpS.data { t4 with T := B6 } 2 = putL zeroL 8 7 8 from HD4.out] at HDA
  clear hk6 ho8 HWH HU4 HLD2
  go_wp2_with fail
  refine HDA.out.mono ?_
  rintro e w9 ⟨v, rfl, hov, hbv⟩
  have hlen : (putL zeroL 8 7 8).length = 4096 := putL_length _ _ _ _
  rw [hlen] at hov
  obtain ⟨g, cap, hv, _, hlt⟩ := hov.form (by decide)
  subst hv
  have c8 : w9.cell? ⟨g, 8, none⟩ = some (.int .u8 7) := by
    rw [hov.cellAt 8 (by decide), List.getElem?_map]
    have h8 : (putL zeroL 8 7 8)[8]? = some 7 := by
      have h := putL_get zeroL 8 7 8 8 (by decide)
      rw [List.getD_eq_getElem?_getD] at h
      have hl : 8 < (putL zeroL 8 7 8).length := by rw [hlen]; decide
      rw [List.getElem?_eq_getElem hl] at h ⊢
      rw [Option.getD_some] at h
      rw [h]
      rfl
    rw [h8]
    rfl
  have HO9 := Lib.hid (HO8.out.step hbv)
  have HS3 := Lib.hid (set_none 3 1 (by rw [HNS.out]; rfl) HO9.out)
  clear hov hbv hlen HDA
  go_wp2_with fail
  refine HS3.out.mono ?_
  rintro e w10 ⟨rfl, rfl⟩
  go_wp2_with fail
  go_ret
  exact ⟨rfl, HO9.out.bel⟩
end Go.Proofs.YtophcgbddccpeaaGreat

/- Rights that come and go: the law. -/
namespace Go.Proofs.YtophcgbddccpeaaGreat
open Go.RowKit

/-- A row of words. -/
def hvC (f : Nat → Nat) (n : Nat) : Array Value := ((List.range n).map fun i => Value.int .u64 (f i : Int)).toArray
theorem hvC_size (f : Nat → Nat) (n : Nat) : (hvC f n).size = n := by simp [hvC]
theorem hvC_get {f : Nat → Nat} {n i : Nat} (h : i < n) : (hvC f n)[i]? = some (.int .u64 (f i : Int)) := by simp [hvC, h]
/-- What stands between two rounds. -/
def KS (L : SpL) (W : World) (shb hvb n : Nat) (wr : World) : Prop := ∃ s M T hv, SpOK L s M T ∧ Objs W (spO L s [blkO shb 26 #[.int .i64 1, .int .i64 0, .int .i64 (n : Int)], blkO hvb 23 (hvC hv n)]) wr ∧ ∀ p, p < n → getV (s.data p) 16 8 = hv p
theorem SpOK.data_len {L : SpL} {s : SpS} {M : List Mp} {T : List Tb} (h : SpOK L s M T) (p : Nat) : (s.data p).length = 4096 := by
  unfold SpS.data
  cases s.sh p with
  | none => exact zero_len
  | some f => exact h.inv.full _
theorem zero_word : getV zeroL 16 8 = 0 := by
  have h := ld_empty 1 16
  rw [show (16 : Nat) = 0 * 4096 + 16 by omega, ld_word (by decide) (by decide) (by decide)] at h
  exact h
theorem hvC_set (f : Nat → Nat) (n p x : Nat) : (hvC f n).setIfInBounds p (.int .u64 (x : Int)) = hvC (fun j => if j = p then x else f j) n := by
  apply Array.ext
  · simp [hvC]
  · intro i h1 h2
    simp only [hvC, List.setIfInBounds_toArray, List.getElem_toArray] at h1 h2 ⊢
    rw [List.getElem_set]
    simp only [List.getElem_map, List.getElem_range]
    by_cases e : p = i
    · subst e; simp
    · rw [if_neg e, if_neg (fun x => e x.symm)]
theorem Objs.memPg {W w : World} {os : List Obj} {g n : Nat} {S : Nat → List Nat} (h : Objs W os w) (i : Nat) (hi : os[i]? = some (memO g n S)) : ∀ k j, (S k).getD j 0 < 256 := by
  obtain ⟨F, hF⟩ := h.get i _ hi
  exact Mem.pg_lt hF.1
theorem make_hv {n : Nat} (h : 1 ≤ n ∧ n ≤ 6) (w : World) : (Instr.makeSlice 32 (.int .i64 (n : Int)) (.int .i64 (n : Int))).run Tryz.prog w = .ok (.slice (some ⟨w.heap.size, 0, none⟩) n n) (w.alloc (.cells (hvC (fun _ => 0) n) 23)) := by
  rcases (show n = 1 ∨ n = 2 ∨ n = 3 ∨ n = 4 ∨ n = 5 ∨ n = 6 by omega) with rfl | rfl | rfl | rfl | rfl | rfl <;> kernel_rfl
set_option maxRecDepth 100000 in
set_option maxHeartbeats 4000000 in
theorem keeps_walk (q : Nat) (hq : q < 256) (A : Option Addr) (len c : Nat) (l : List Nat) (vv : Nat) (hvv : vv < 18446744073709551616) (W : World) (hB : Bts W A l) (hl : l.length = len) (hlm : len ≤ 9223372036854775807) :
    Calls Tryz.prog 3 #[.int .u8 (q : Int), .slice A len c, .int .u64 (vv : Int)] W fun e w' => e = .returned (.bool true) ∧ Below W.heap.size W w' := by
  have HBT := Lib.hid hB
  have HLL := Lib.hid hl
  have HLM := Lib.hid hlm
  have HVV := Lib.hid hvv
  obtain ⟨n, hn⟩ : ∃ n, n = 1 + q % 6 := ⟨_, rfl⟩
  have HN : Hid (1 ≤ n ∧ n ≤ 6) := Lib.hid (by omega)
  clear hB hl hlm hvv
  go_enter Tryz.func3, Tryz.ntmps3
  go_wp2_with fail
  refine (sfirst_any _).mono ?_
  rintro e w0 ⟨rfl, b0⟩
  have HB0 := Lib.hid b0
  clear b0
  go_upto_region 4 with fail
  have e1 : (1 + (q : Int) % 6) = (n : Int) := by omega
  rw [e1]
  clear e1 hn
  generalize Value.int .i64 ((q : Int) % 6) = jk1 at *
  generalize Value.int .u8 ((q : Int) % 6) = jk2 at *
  obtain ⟨shb, hshb⟩ : ∃ z, z = w0.heap.size := ⟨_, rfl⟩
  have HO0 := Lib.hid ((Objs.nil HB0.out).push #[.int .i64 1, .int .i64 0, .int .i64 (n : Int)] 26 hshb)
  go_upto_region 5 with fail
  rw [← hshb]
  clear hshb
  generalize w0.alloc (.cells #[.int .i64 1, .int .i64 0, .int .i64 (n : Int)] 26) = w1 at *
  have hbk := HO0.out.drew.blk 0 rfl
  have s0 : ∀ w', SameL [shb] w1.drew w' → w'.cell? ⟨shb, 0, none⟩ = some (.int .i64 1) := fun w' hs => hs.cell (by simp) (hbk.cell 0)
  have s1 : ∀ w', SameL [shb] w1.drew w' → w'.cell? ⟨shb, 1, none⟩ = some (.int .i64 0) := fun w' hs => hs.cell (by simp) (hbk.cell 1)
  have s2 : ∀ w', SameL [shb] w1.drew w' → w'.cell? ⟨shb, 2, none⟩ = some (.int .i64 (n : Int)) := fun w' hs => hs.cell (by simp) (hbk.cell 2)
  have HLS := Lib.hid hbk.lt
  clear hbk
  go_wp2_with fail
  refine wp_region_plan_by (SameL [shb]) (later_same _) [(0, false), (1, false), (2, true), (3, true), (4, false), (5, false), (6, false), (7, false), (8, false)] (by kernel_rfl) (by kernel_rfl) (fun _ d _ _ _ h => by cases d <;> exact h) ?_
  iterate 2 (refine plan_take (v := ?_) rfl (by kernel_rfl) ?_ ?_; rotate_left; (focus (intro w' hw'; try go_simp; try with_reducible rfl)); simp only [Act.put, List.setIfInBounds_toArray, List.set_cons_zero, List.set_cons_succ])
  clear s0 s1 s2
  refine plan_call rfl (by kernel_rfl) (by go_simp; exact ⟨rfl, rfl⟩) ?_
  refine (need_ok 1 0 n _ (by decide) (by decide) (by decide) HN.out.1 (by have := HN.out; omega)).mono ?_
  rintro e w2 ⟨rfl, b1⟩
  have HO1 := Lib.hid (HO0.out.drew.step b1)
  refine ⟨_, rfl, (sameL_below b1 HLS.out), ?_⟩
  simp only [Act.put, List.setIfInBounds_toArray, List.set_cons_zero, List.set_cons_succ]
  clear b1
  refine plan_call rfl (by kernel_rfl) (by go_simp; exact ⟨rfl, rfl⟩) ?_
  refine (snew_any 1 0 n 2 2 (by decide) (by decide) (by decide) HN.out.1 (by have := HN.out; omega) (by decide) HO1.out).mono ?_
  rintro e w3 ⟨L, t0, rfl, ⟨_, _, hns, _, _, ⟨M0, T0, hk0⟩, hrt0, hd0⟩, ho2⟩
  have HO2 := Lib.hid ho2
  have HK0 := Lib.hid hk0
  have HNS := Lib.hid hns
  have HD0 := Lib.hid hd0
  have HSM : Hid (SameL [shb] w2 w3) := Lib.hid (fun b hb => by
    rw [List.mem_singleton.1 hb]
    exact HO1.out.same ho2 0 10 rfl rfl)
  refine ⟨_, rfl, HSM.out, ?_⟩
  simp only [Act.put, List.setIfInBounds_toArray, List.set_cons_zero, List.set_cons_succ]
  iterate 5 (refine plan_take (v := ?_) rfl (by kernel_rfl) ?_ ?_; rotate_left; (focus (intro w' hw'; try go_simp; try with_reducible rfl)); simp only [Act.put, List.setIfInBounds_toArray, List.set_cons_zero, List.set_cons_succ])
  refine plan_end ?_
  generalize ((1 + 0 + n + 5 : Nat) : Int) = need at *
  clear ho2 HSM hk0 hns hd0 hrt0 HO0 HO1 HLS
  have hmk := fun w => make_hv HN.out w
  obtain ⟨hvb, hhvb⟩ : ∃ z, z = w3.heap.size := ⟨_, rfl⟩
  have HO3 : Hid (Objs W (spO L t0 [blkO shb 26 #[.int .i64 1, .int .i64 0, .int .i64 (n : Int)], blkO hvb 23 (hvC (fun _ => 0) n)]) (w3.alloc (.cells (hvC (fun _ => 0) n) 23))) := Lib.hid (Objs.rot (xs := [blkO hvb 23 (hvC (fun _ => 0) n)]) (bs := spO L t0 [blkO shb 26 #[.int .i64 1, .int .i64 0, .int .i64 (n : Int)]]) (HO2.out.push (hvC (fun _ => 0) n) 23 hhvb))
  go_upto_region 9 with fail
  rw [← hhvb]
  clear hhvb hmk HO2
  generalize w3.alloc (.cells (hvC (fun _ => 0) n) 23) = w4 at *
  go_wp2_with fail
  have HKS : Hid (KS L W shb hvb n w4) := Lib.hid ⟨t0, M0, T0, fun _ => 0, HK0.out, HO3.out, fun p _ => by rw [HD0.out]; exact zero_word⟩
  clear HO3 HK0 HD0
  go_loopw [6, 12, 13, 14, 15, 16, 17, 18, 19, 20, 21, 22, 48] (fun _ _ _ _ _ _ _ _ _ _ _ _ i wr => ∃ k : Nat, k ≤ len ∧ k ≤ 100 ∧ i = .int .i64 (k : Int) ∧ KS L W shb hvb n wr) (fun _ _ _ _ _ _ _ _ _ _ _ _ i _ => len - (intOf i).toNat)
  case atStart => exact ⟨0, Nat.zero_le _, Nat.zero_le _, rfl, HKS.out⟩
  clear HKS
  case round =>
    obtain ⟨k, hk, hk100, rfl, hKS⟩ := hrel
    have HKS := Lib.hid hKS
    clear hKS
    by_cases hkl : k < len
    · by_cases hk1 : k < 100
      · obtain ⟨ab, ao, hA, hcell⟩ := HBT.out.2 (by rw [HLL.out]; omega)
        subst hA
        obtain ⟨r, hr⟩ : ∃ r, r = l.getD k 0 := ⟨_, rfl⟩
        have hr256 : r < 256 := by rw [hr]; exact HBT.out.1 k
        obtain ⟨s, M, T, hv, hks, hO, hdv⟩ := HKS.out
        have hc := hcell k (by rw [HLL.out]; exact hkl)
        rw [← hr] at hc
        have hlab := Lib.hid (cell_lt hc)
        have hc' : wr.cell? ⟨ab, ao + k, none⟩ = some (.int .u8 (r : Int)) := (hO.bel.cell (p := ⟨ab, ao + k, none⟩) hlab.out).trans hc
        have HKK := Lib.hid hks
        have HOO := Lib.hid hO
        have HDV := Lib.hid hdv
        have hki : (k : Int) < (len : Int) := by omega
        have hk1i : decide (100 ≤ (k : Int)) = false := by simp; omega
        have hn6 := HN.out
        have HKL := Lib.hid (And.intro hkl hk1)
        clear hk hk100 hkl hk1 hks hO hdv hc hcell HKS hr
        go_upto_region 14 with fail
        obtain ⟨p, hp⟩ : ∃ p, p = r / 3 % n := ⟨_, rfl⟩
        have HP : Hid (p < n) := Lib.hid (by rw [hp]; exact Nat.mod_lt _ (by omega))
        rw [show ((r : Int) / 3 % (n : Int)) = (p : Int) by rw [hp]; simp]
        obtain ⟨xv, hxv⟩ : ∃ x, x = (vv + k) % 18446744073709551616 := ⟨_, rfl⟩
        have HX : Hid (xv < 18446744073709551616) := Lib.hid (by rw [hxv]; exact Nat.mod_lt _ (by decide))
        have f1 : IntKind.u64.wrap (k : Int) = (k : Int) := by rw [IntKind.wrap_u64]; have := HKL.out; omega
        have f2 : IntKind.u64.wrap ((vv : Int) + (k : Int)) = (xv : Int) := by rw [IntKind.wrap_u64, hxv]; omega
        have f3 : IntKind.u64.wrap (p : Int) = (p : Int) := by rw [IntKind.wrap_u64]; have := HP.out; omega
        obtain ⟨va, hva⟩ : ∃ z, z = vaN p + 16 := ⟨_, rfl⟩
        obtain ⟨vq, hvq⟩ : ∃ z, z = 1073741824 + 4096 * p := ⟨_, rfl⟩
        obtain ⟨pq, hpq⟩ : ∃ z, z = 4096 * p := ⟨_, rfl⟩
        have f4 : IntKind.u64.wrap (4096 * (p : Int)) = (pq : Int) := by rw [IntKind.wrap_u64]; have := HP.out; omega
        have f5 : IntKind.u64.wrap (1073741824 + (pq : Int)) = (vq : Int) := by rw [IntKind.wrap_u64]; have := HP.out; omega
        have f6 : IntKind.u64.wrap ((vq : Int) + 16) = (va : Int) := by rw [IntKind.wrap_u64, hva]; unfold vaN; have := HP.out; omega
        have HVA : Hid (((vaN p + 16 : Nat) : Int) = (va : Int)) := Lib.hid (by rw [hva])
        have HRI : Hid (-9223372036854775808 ≤ (r : Int) ∧ (r : Int) < 9223372036854775808) := Lib.hid (by omega)
        clear hpq hvq hp hxv hva hc' hki hk1i
        rcases (show (r : Int) % 3 = 0 ∨ (r : Int) % 3 = 1 ∨ (r : Int) % 3 = 2 by omega) with hw | hw | hw
        · rw [hw]
          have HS := Lib.hid (spset_any HKK.out HOO.out (p := p) (by have := HP.out; have := HNS.out; omega) (r := 0) (.inl rfl))
          clear hw
          go_wp2_with fail
          refine HS.out.mono ?_
          rintro e y1 ⟨rfl, t1, M1, T1, hk1, ht1, ho1⟩
          have HK1 := Lib.hid hk1
          have HO1 := Lib.hid ho1
          have HR1 : Hid (t1.rt p = 0) := Lib.hid (by rw [ht1.rt, if_pos rfl])
          have HD1 : Hid (∀ j, j < n → getV (t1.data j) 16 8 = hv j) := Lib.hid (fun j hj => by rw [ht1.data]; exact HDV.out j hj)
          have HSR := Lib.hid (sright_any p (by have := HP.out; omega) ho1)
          rw [HR1.out] at HSR
          have HU1 := Lib.hid (unit_any ho1)
          have HST := Lib.hid (spstore_any (v := xv) hk1 ho1 (p := p) (o := 16) (by have := HP.out; have := HNS.out; omega) (by decide) (by decide) HX.out (r : Int) HRI.out)
          rw [HR1.out, show okRt 0 2 = false from rfl, if_neg (by decide), HVA.out] at HST
          clear hk1 ht1 ho1 HS HKK HOO HDV
          go_wp2_with fail
          refine HSR.out.mono ?_
          rintro e y2 ⟨rfl, rfl⟩
          go_wp2_with fail
          refine HU1.out.mono ?_
          rintro e y2 ⟨rfl, rfl⟩
          go_wp2_with fail
          refine HST.out.mono ?_
          rintro e y2 ⟨rfl, t2, hk2, hrt2, hd2, ho2⟩
          have HR2 : Hid (t2.rt p = 0) := Lib.hid (by rw [hrt2]; exact HR1.out)
          have HD2 : Hid (∀ j, j < n → getV (t2.data j) 16 8 = hv j) := Lib.hid (fun j hj => by
            rw [hd2, if_neg (fun z => by cases z.2)]
            exact HD1.out j hj)
          have HO2 := Lib.hid ho2
          have hpn : (p : Int) < (n : Int) := by have := HP.out; omega
          clear ho2
          go_upto_region 23 with fail
          obtain ⟨y3, hy3⟩ : ∃ y, y = y2 := ⟨_, rfl⟩
          rw [← hy3] at HO2 ⊢
          clear hy3
          have HK2 := Lib.hid hk2
          have HU2 := Lib.hid (unit_any HO2.out)
          have HLD := Lib.hid (spload_any hk2 HO2.out (p := p) (o := 16) (by have := HP.out; have := HNS.out; omega) (by decide) (by decide) (r : Int) HRI.out)
          rw [HR2.out, show okRt 0 1 = false from rfl, if_neg (by decide), if_neg (by decide), HVA.out] at HLD
          clear hk2 hrt2 hd2
          go_wp2_with fail
          refine HU2.out.mono ?_
          rintro e y4 ⟨rfl, rfl⟩
          go_wp2_with fail
          refine HLD.out.mono ?_
          rintro e y5 ⟨rfl, B5, hk5, ho5⟩
          have HK5 := Lib.hid hk5
          have HO5 := Lib.hid ho5
          have hbk := ho5.blk 11 rfl
          have hcp : y5.cell? ⟨hvb, p, none⟩ = some (.int .u64 (hv p : Int)) := (hbk.cell p).trans (hvC_get HP.out)
          have hlh := hbk.lt
          have HUS := Lib.hid (sused_any ho5)
          have HMS : Hid (t2.ms ≤ n) := Lib.hid (by have h1 := hk5.ms; have h2 := cnt_le t2.sh L.ns; have h3 : t2.ms = cntS t2.sh L.ns := h1; have := HNS.out; omega)
          have HSO := Lib.hid (sound_any hk5 ho5.drew)
          clear hk5 ho5 hbk HLD HU2
          go_wp2_with fail
          refine HUS.out.mono ?_
          rintro e y6 ⟨rfl, rfl⟩
          have hms : decide ((n : Int) < ((SpS.ms { t2 with T := B5 } : Nat) : Int)) = false := by have := HMS.out; simp; show t2.ms ≤ n; omega
          clear hcp hlh
          go_wp2_with fail
          refine HSO.out.mono ?_
          rintro e y7 ⟨rfl, ho7⟩
          have HO7 := Lib.hid ho7
          clear ho7 hms
          have hkk := HKL.out
          go_wp2_with fail
          go_roundw
          case rel => exact ⟨k + 1, hkk.1, hkk.2, by go_num, _, _, _, _, HK5.out, HO7.out, fun j hj => HD2.out j hj⟩
          case measure => simp [intOf]; omega
        · rw [hw]
          have HS := Lib.hid (spset_any HKK.out HOO.out (p := p) (by have := HP.out; have := HNS.out; omega) (r := 1) (.inr (.inl rfl)))
          clear hw
          go_wp2_with fail
          refine HS.out.mono ?_
          rintro e y1 ⟨rfl, t1, M1, T1, hk1, ht1, ho1⟩
          have HK1 := Lib.hid hk1
          have HO1 := Lib.hid ho1
          have HR1 : Hid (t1.rt p = 1) := Lib.hid (by rw [ht1.rt, if_pos rfl])
          have HD1 : Hid (∀ j, j < n → getV (t1.data j) 16 8 = hv j) := Lib.hid (fun j hj => by rw [ht1.data]; exact HDV.out j hj)
          have HSR := Lib.hid (sright_any p (by have := HP.out; omega) ho1)
          rw [HR1.out] at HSR
          have HU1 := Lib.hid (unit_any ho1)
          have HST := Lib.hid (spstore_any (v := xv) hk1 ho1 (p := p) (o := 16) (by have := HP.out; have := HNS.out; omega) (by decide) (by decide) HX.out (r : Int) HRI.out)
          rw [HR1.out, show okRt 1 2 = false from rfl, if_neg (by decide), HVA.out] at HST
          clear hk1 ht1 ho1 HS HKK HOO HDV
          go_wp2_with fail
          refine HSR.out.mono ?_
          rintro e y2 ⟨rfl, rfl⟩
          go_wp2_with fail
          refine HU1.out.mono ?_
          rintro e y2 ⟨rfl, rfl⟩
          go_wp2_with fail
          refine HST.out.mono ?_
          rintro e y2 ⟨rfl, t2, hk2, hrt2, hd2, ho2⟩
          have HR2 : Hid (t2.rt p = 1) := Lib.hid (by rw [hrt2]; exact HR1.out)
          have HD2 : Hid (∀ j, j < n → getV (t2.data j) 16 8 = hv j) := Lib.hid (fun j hj => by
            rw [hd2, if_neg (fun z => by cases z.2)]
            exact HD1.out j hj)
          have HO2 := Lib.hid ho2
          have hpn : (p : Int) < (n : Int) := by have := HP.out; omega
          clear ho2
          go_upto_region 23 with fail
          obtain ⟨y3, hy3⟩ : ∃ y, y = y2 := ⟨_, rfl⟩
          rw [← hy3] at HO2 ⊢
          clear hy3
          have HK2 := Lib.hid hk2
          have HU2 := Lib.hid (unit_any HO2.out)
          have HLD := Lib.hid (spload_any hk2 HO2.out (p := p) (o := 16) (by have := HP.out; have := HNS.out; omega) (by decide) (by decide) (r : Int) HRI.out)
          rw [HR2.out, show okRt 1 1 = true from rfl, if_pos rfl, if_pos rfl, HVA.out] at HLD
          rw [show ((16 : Nat) : Int) = 16 from rfl, HD2.out p HP.out] at HLD
          clear hk2 hrt2 hd2
          go_wp2_with fail
          refine HU2.out.mono ?_
          rintro e y4 ⟨rfl, rfl⟩
          go_wp2_with fail
          refine HLD.out.mono ?_
          rintro e y5 ⟨rfl, B5, hk5, ho5⟩
          have HK5 := Lib.hid hk5
          have HO5 := Lib.hid ho5
          have hbk := ho5.blk 11 rfl
          have hcp : y5.cell? ⟨hvb, p, none⟩ = some (.int .u64 (hv p : Int)) := (hbk.cell p).trans (hvC_get HP.out)
          have hlh := hbk.lt
          have HUS := Lib.hid (sused_any ho5)
          have HMS : Hid (t2.ms ≤ n) := Lib.hid (by have h1 := hk5.ms; have h2 := cnt_le t2.sh L.ns; have h3 : t2.ms = cntS t2.sh L.ns := h1; have := HNS.out; omega)
          have HSO := Lib.hid (sound_any hk5 ho5.drew)
          clear hk5 ho5 hbk HLD HU2
          go_wp2_with fail
          refine HUS.out.mono ?_
          rintro e y6 ⟨rfl, rfl⟩
          have hms : decide ((n : Int) < ((SpS.ms { t2 with T := B5 } : Nat) : Int)) = false := by have := HMS.out; simp; show t2.ms ≤ n; omega
          clear hcp hlh
          go_wp2_with fail
          refine HSO.out.mono ?_
          rintro e y7 ⟨rfl, ho7⟩
          have HO7 := Lib.hid ho7
          clear ho7 hms
          have hkk := HKL.out
          go_wp2_with fail
          go_roundw
          case rel => exact ⟨k + 1, hkk.1, hkk.2, by go_num, _, _, _, _, HK5.out, HO7.out, fun j hj => HD2.out j hj⟩
          case measure => simp [intOf]; omega
        · rw [hw]
          have HS := Lib.hid (spset_any HKK.out HOO.out (p := p) (by have := HP.out; have := HNS.out; omega) (r := 2) (.inr (.inr rfl)))
          clear hw
          go_wp2_with fail
          refine HS.out.mono ?_
          rintro e y1 ⟨rfl, t1, M1, T1, hk1, ht1, ho1⟩
          have HK1 := Lib.hid hk1
          have HO1 := Lib.hid ho1
          have HR1 : Hid (t1.rt p = 2) := Lib.hid (by rw [ht1.rt, if_pos rfl])
          have HD1 : Hid (∀ j, j < n → getV (t1.data j) 16 8 = hv j) := Lib.hid (fun j hj => by rw [ht1.data]; exact HDV.out j hj)
          have HSR := Lib.hid (sright_any p (by have := HP.out; omega) ho1)
          rw [HR1.out] at HSR
          have HU1 := Lib.hid (unit_any ho1)
          have HST := Lib.hid (spstore_any (v := xv) hk1 ho1 (p := p) (o := 16) (by have := HP.out; have := HNS.out; omega) (by decide) (by decide) HX.out (r : Int) HRI.out)
          rw [HR1.out, show okRt 2 2 = true from rfl, if_pos rfl, HVA.out] at HST
          clear hk1 ht1 ho1 HS HKK HOO HDV
          go_wp2_with fail
          refine HSR.out.mono ?_
          rintro e y2 ⟨rfl, rfl⟩
          go_wp2_with fail
          refine HU1.out.mono ?_
          rintro e y2 ⟨rfl, rfl⟩
          go_wp2_with fail
          refine HST.out.mono ?_
          rintro e y2 ⟨rfl, t2, hk2, hrt2, hd2, ho2⟩
          have HR2 : Hid (t2.rt p = 2) := Lib.hid (by rw [hrt2]; exact HR1.out)
          obtain ⟨hv2, hhv2⟩ : ∃ f : Nat → Nat, f = fun j => if j = p then xv else hv j := ⟨_, rfl⟩
          have HD2 : Hid (∀ j, j < n → getV (t2.data j) 16 8 = hv2 j) := Lib.hid (fun j hj => by
            rw [hd2, hhv2]
            show _ = if j = p then xv else hv j
            by_cases e : j = p
            · rw [if_pos ⟨e, by trivial⟩, if_pos e]
              exact put_word (o := 16) (HK1.out.data_len _) (by decide) (by decide) HX.out
            · rw [if_neg (fun z => e z.1), if_neg e]
              exact HD1.out j hj)
          have HO2 : Hid (Objs W (spO L t2 [blkO shb 26 #[.int .i64 1, .int .i64 0, .int .i64 (n : Int)], blkO hvb 23 (hvC hv2 n)]) (y2.setCell ⟨hvb, p, none⟩ (.int .u64 (xv : Int)))) := Lib.hid (by
            have h := ho2.set_ 11 rfl p (.int .u64 (xv : Int))
            have e : (hvC hv n).setIfInBounds p (.int .u64 (xv : Int)) = hvC hv2 n := by
              rw [hhv2]
              exact hvC_set hv n p xv
            rw [e] at h
            exact h)
          have hbk := ho2.blk 11 rfl
          have hcp : y2.cell? ⟨hvb, p, none⟩ = some (.int .u64 (hv p : Int)) := (hbk.cell p).trans (hvC_get HP.out)
          have hfr : ∀ i, y2.frozen? ⟨hvb, i, none⟩ = false := fun i => Blk.frozen hbk i
          have hlh := hbk.lt
          have hpn : (p : Int) < (n : Int) := by have := HP.out; omega
          clear ho2 hbk
          go_upto_region 23 with fail
          generalize y2.setCell ⟨hvb, p, none⟩ (.int .u64 (xv : Int)) = y3 at *
          clear hcp hfr hlh
          have HK2 := Lib.hid hk2
          have HU2 := Lib.hid (unit_any HO2.out)
          have HLD := Lib.hid (spload_any hk2 HO2.out (p := p) (o := 16) (by have := HP.out; have := HNS.out; omega) (by decide) (by decide) (r : Int) HRI.out)
          rw [HR2.out, show okRt 2 1 = true from rfl, if_pos rfl, if_pos rfl, HVA.out] at HLD
          rw [show ((16 : Nat) : Int) = 16 from rfl, HD2.out p HP.out] at HLD
          clear hk2 hrt2 hd2
          go_wp2_with fail
          refine HU2.out.mono ?_
          rintro e y4 ⟨rfl, rfl⟩
          go_wp2_with fail
          refine HLD.out.mono ?_
          rintro e y5 ⟨rfl, B5, hk5, ho5⟩
          have HK5 := Lib.hid hk5
          have HO5 := Lib.hid ho5
          have hbk := ho5.blk 11 rfl
          have hcp : y5.cell? ⟨hvb, p, none⟩ = some (.int .u64 (hv2 p : Int)) := (hbk.cell p).trans (hvC_get HP.out)
          have hlh := hbk.lt
          have HUS := Lib.hid (sused_any ho5)
          have HMS : Hid (t2.ms ≤ n) := Lib.hid (by have h1 := hk5.ms; have h2 := cnt_le t2.sh L.ns; have h3 : t2.ms = cntS t2.sh L.ns := h1; have := HNS.out; omega)
          have HSO := Lib.hid (sound_any hk5 ho5.drew)
          clear hk5 ho5 hbk HLD HU2
          go_wp2_with fail
          refine HUS.out.mono ?_
          rintro e y6 ⟨rfl, rfl⟩
          have hms : decide ((n : Int) < ((SpS.ms { t2 with T := B5 } : Nat) : Int)) = false := by have := HMS.out; simp; show t2.ms ≤ n; omega
          clear hcp hlh
          go_wp2_with fail
          refine HSO.out.mono ?_
          rintro e y7 ⟨rfl, ho7⟩
          have HO7 := Lib.hid ho7
          clear ho7 hms
          have hkk := HKL.out
          go_wp2_with fail
          go_roundw
          case rel => exact ⟨k + 1, hkk.1, hkk.2, by go_num, _, _, _, _, HK5.out, HO7.out, fun j hj => HD2.out j hj⟩
          case measure => simp [intOf]; omega
      · obtain ⟨ab, ao, hA, hcell⟩ := HBT.out.2 (by rw [HLL.out]; omega)
        subst hA
        obtain ⟨r, hr⟩ : ∃ r, r = l.getD k 0 := ⟨_, rfl⟩
        obtain ⟨s, M, T, hv, hks, hO, hdv⟩ := HKS.out
        have hc := hcell k (by rw [HLL.out]; exact hkl)
        rw [← hr] at hc
        have hlab := Lib.hid (cell_lt hc)
        have hc' : wr.cell? ⟨ab, ao + k, none⟩ = some (.int .u8 (r : Int)) := (hO.bel.cell (p := ⟨ab, ao + k, none⟩) hlab.out).trans hc
        have hki : (k : Int) < (len : Int) := by omega
        have hk1i : decide (100 ≤ (k : Int)) = true := by simp; omega
        clear hk hk100 hkl hk1 hks hO hdv hc hcell hr
        go_wp2_with fail
        go_loopw [6, 23, 24, 25, 26, 144] (fun _ _ _ _ _ i wr => ∃ j : Nat, j ≤ n ∧ i = .int .i64 (j : Int) ∧ KS L W shb hvb n wr) (fun _ _ _ _ _ i _ => n - (intOf i).toNat)
        case atStart => exact ⟨0, Nat.zero_le _, rfl, HKS.out⟩
        clear HKS
        case round =>
          obtain ⟨j, hj, rfl, hKS⟩ := hrel
          obtain ⟨s, M, T, hv, hks, hO, hdv⟩ := hKS
          have HOO := Lib.hid hO
          by_cases hjn : j < n
          · have hji : (j : Int) < (n : Int) := by omega
            have hn6 := HN.out
            have hbk := hO.blk 11 rfl
            have hcp := (hbk.cell j).trans (hvC_get hjn)
            have hlh := hbk.lt
            have HKK := Lib.hid hks
            have HDV := Lib.hid hdv
            have HJN := Lib.hid hjn
            have HDA := Lib.hid (data_any j (by have := HNS.out; omega) (by have := hks.ns; omega) (fun f hf => by
              obtain ⟨_, g, e, _, hg, _⟩ := hks.shv j f hf
              have := hks.kn
              exact ⟨g, e, by omega⟩) hO)
            have HPG : Hid (∀ i : Nat, (s.data j).getD i 0 < 256) := Lib.hid (fun i => by
              unfold SpS.data
              cases hsh : s.sh j with
              | none => simp only; rw [zeroL_get]; decide
              | some x => exact hO.memPg 3 rfl _ _)
            clear hks hO hdv hbk hj hjn
            go_wp2_with fail
            refine HDA.out.mono ?_
            rintro e y1 ⟨v, rfl, hov, hbv⟩
            obtain ⟨Av, cv, rfl, hbts, _⟩ := bts_own hov HPG.out rfl
            have HO2 := Lib.hid (HOO.out.step hbv)
            have HBV := Lib.hid hbts
            clear hov hbv hbts hcp hlh
            have HGT := Lib.hid (rget_yes Av (s.data j) cv 16 8 y1 (by rw [HKK.out.data_len]; decide) HBV.out (by rw [HKK.out.data_len]; rfl))
            rw [HDV.out j HJN.out] at HGT
            go_wp2_with fail
            refine HGT.out.mono ?_
            rintro e y2 ⟨rfl, hb2⟩
            have HO3 := Lib.hid (HO2.out.step hb2)
            have hjl := HJN.out
            clear hb2
            go_wp2_with fail
            go_roundw
            case rel => exact ⟨j + 1, hjl, by go_num, s, M, T, hv, HKK.out, HO3.out, HDV.out⟩
            case measure => simp [intOf]; omega
          · obtain rfl : n = j := by omega
            clear hks hO hdv
            go_wp2_with fail
            go_ret
            exact ⟨rfl, HOO.out.bel⟩
    · obtain rfl : len = k := by omega
      clear hk hk100 hkl
      go_wp2_with fail
      go_loopw [6, 23, 24, 25, 26, 144] (fun _ _ _ _ _ i wr => ∃ j : Nat, j ≤ n ∧ i = .int .i64 (j : Int) ∧ KS L W shb hvb n wr) (fun _ _ _ _ _ i _ => n - (intOf i).toNat)
      case atStart => exact ⟨0, Nat.zero_le _, rfl, HKS.out⟩
      clear HKS
      case round =>
        obtain ⟨j, hj, rfl, hKS⟩ := hrel
        obtain ⟨s, M, T, hv, hks, hO, hdv⟩ := hKS
        have HOO := Lib.hid hO
        by_cases hjn : j < n
        · have hji : (j : Int) < (n : Int) := by omega
          have hn6 := HN.out
          have hbk := hO.blk 11 rfl
          have hcp := (hbk.cell j).trans (hvC_get hjn)
          have hlh := hbk.lt
          have HKK := Lib.hid hks
          have HDV := Lib.hid hdv
          have HJN := Lib.hid hjn
          have HDA := Lib.hid (data_any j (by have := HNS.out; omega) (by have := hks.ns; omega) (fun f hf => by
            obtain ⟨_, g, e, _, hg, _⟩ := hks.shv j f hf
            have := hks.kn
            exact ⟨g, e, by omega⟩) hO)
          have HPG : Hid (∀ i : Nat, (s.data j).getD i 0 < 256) := Lib.hid (fun i => by
            unfold SpS.data
            cases hsh : s.sh j with
            | none => simp only; rw [zeroL_get]; decide
            | some x => exact hO.memPg 3 rfl _ _)
          clear hks hO hdv hbk hj hjn
          go_wp2_with fail
          refine HDA.out.mono ?_
          rintro e y1 ⟨v, rfl, hov, hbv⟩
          obtain ⟨Av, cv, rfl, hbts, _⟩ := bts_own hov HPG.out rfl
          have HO2 := Lib.hid (HOO.out.step hbv)
          have HBV := Lib.hid hbts
          clear hov hbv hbts hcp hlh
          have HGT := Lib.hid (rget_yes Av (s.data j) cv 16 8 y1 (by rw [HKK.out.data_len]; decide) HBV.out (by rw [HKK.out.data_len]; rfl))
          rw [HDV.out j HJN.out] at HGT
          go_wp2_with fail
          refine HGT.out.mono ?_
          rintro e y2 ⟨rfl, hb2⟩
          have HO3 := Lib.hid (HO2.out.step hb2)
          have hjl := HJN.out
          clear hb2
          go_wp2_with fail
          go_roundw
          case rel => exact ⟨j + 1, hjl, by go_num, s, M, T, hv, HKK.out, HO3.out, HDV.out⟩
          case measure => simp [intOf]; omega
        · obtain rfl : n = j := by omega
          clear hks hO hdv
          go_wp2_with fail
          go_ret
          exact ⟨rfl, HOO.out.bel⟩
end Go.Proofs.YtophcgbddccpeaaGreat

/- Rights that come and go: for every input. -/
namespace Go.Proofs.YtophcgbddccpeaaGreat
open Go.RowKit

theorem Law.SpaceKeeps (q : Int) (A : Option Addr) (n c : Nat) (z : List Int) (v : Int) (W : World) (hq : (Lit.int .u8 q).wf = true) (hz : IsRow .u8 W A n c z) (_ : 1 * c ≤ 140737488351232) (hv : (Lit.int .u64 v).wf = true) :
    Calls Tryz.prog 3 #[.int .u8 q, .slice A n c, .int .u64 v] W fun e w' => e = .returned (.bool true) ∧ Below W.heap.size W w' := by
  obtain ⟨h1, h2⟩ := u8_of_wf hq
  obtain ⟨h3, h4⟩ := u64_of_wf hv
  obtain ⟨a, rfl⟩ := Int.eq_ofNat_of_zero_le h1
  obtain ⟨b, rfl⟩ := Int.eq_ofNat_of_zero_le h3
  obtain ⟨l, hl, hB, hm⟩ := bts_of_row hz
  exact keeps_walk a (by omega) A n c l b (by omega) W hB hl hm
end Go.Proofs.YtophcgbddccpeaaGreat
