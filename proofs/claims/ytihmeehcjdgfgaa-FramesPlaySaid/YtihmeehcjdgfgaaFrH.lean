/- FramesOnce. -/
import Derived.Test.YtihmeehcjdgfgaaFrG
namespace Go.Proofs.Ytihmeehcjdgfgaa
open Go.RowKit Go.Maps

theorem row_at {w : World} {a : Option Addr} {len cap : Nat} {z : List Int} (h : IsRow .u8 w a len cap z) (k : Nat) (hk : k < len) : ∃ b o x, a = some ⟨b, o, none⟩ ∧ w.cell? ⟨b, o + k, none⟩ = some (.int .u8 x) ∧ 0 ≤ x ∧ x < 256 := by
  rcases h with ⟨_, rfl, _, _⟩ | ⟨x, rfl, hl, hm, hz, hc, hw⟩
  · omega
  · have h0 := hc k (by omega)
    obtain ⟨b, o, spot⟩ := x
    have hspot : spot = none := by simpa [Addr.add] using World.cell?_spot (hc 0 (by omega))
    subst hspot
    have e : (⟨b, o, none⟩ : Addr).add k = ⟨b, o + k, none⟩ := by unfold Addr.add; split <;> simp_all
    rw [e] at h0
    have hb := u8_of_wf (hw (z.getD k 0) (by rw [List.getD_eq_getElem?_getD, List.getElem?_eq_getElem (by omega)]; exact List.getElem_mem _))
    exact ⟨b, o, _, rfl, h0, hb.1, hb.2⟩
theorem row_len {w : World} {a : Option Addr} {len cap : Nat} {z : List Int} (h : IsRow .u8 w a len cap z) : len ≤ 9223372036854775807 := by
  rcases h with ⟨_, rfl, _, _⟩ | ⟨x, rfl, hl, hm, _⟩
  · omega
  · unfold maxLen at hm; omega
theorem ints_one (H : List Int) : ∀ u ∈ H.map iv, u.oneCell' = true := by
  intro u hu
  obtain ⟨x, _, rfl⟩ := List.mem_map.1 hu
  rfl
theorem take_one (H : List Int) (m : Nat) : ∀ u ∈ (H.map iv).take m, u.oneCell' = true := fun u hu => ints_one H u (List.mem_of_mem_take hu)
theorem drop_one (H : List Int) (m : Nat) : ∀ u ∈ (H.map iv).drop m, u.oneCell' = true := fun u hu => ints_one H u (List.mem_of_mem_drop hu)
def OnceRel (W : World) (sb len : Nat) (n : Int) (hv i : Value) (wr : World) : Prop := ∃ k : Nat, k ≤ len ∧ i = .int .i64 k ∧ ∃ F s H, Had wr W.heap.size sb F s n hv H ∧ Below W.heap.size W wr
theorem once_step {W wr w' : World} {sb len k : Nat} {n j : Int} {F G : Nat → Prop} {s : SV} {v : Value} {H : List Int} (hk : k < len) (hj : j = ((k + 1 : Nat) : Int)) (h : Had w' W.heap.size sb F s n v H) (hb : Below W.heap.size W wr) (hkp : Keeps G wr w') (hG : ∀ g, G g → W.heap.size ≤ g) : OnceRel W sb len n v (.int .i64 j) w' := by
  subst hj
  exact ⟨k + 1, hk, rfl, F, s, H, h, below_step hb hkp hG hb.size⟩
namespace Law
set_option maxRecDepth 100000 in
set_option maxHeartbeats 16000000 in
theorem FramesOnce (n : Int) (A : Option Addr) (len c : Nat) (z : List Int) (W : World) (hn : (Lit.int .u8 n).wf = true) (hz : IsRow .u8 W A len c z) (_ : 1 * c ≤ 140737488351232) :
    Calls Try.prog 5 #[.int .u8 n, .slice A len c] W fun e w' => e = .returned (.bool true) ∧ Below W.heap.size W w' := by
  obtain ⟨n0, n1⟩ := u8_of_wf hn
  have hlm := row_len hz
  have HZ := Lib.hid hz
  obtain ⟨i0, hi0, hz0, hz1, hz2⟩ := info_parts info3
  clear hn hz
  go_enter Try.func5, Try.ntmps5
  go_wp2_with fail
  refine (first_ok _).mono ?_
  rintro e w0 ⟨rfl, hb⟩
  have HB0 := Lib.hid hb
  clear hb
  go_wp2_with fail
  refine (new_yes 5 n _ (by decide) (by decide) n0 (by omega)).mono ?_
  rintro e w1 ⟨rfl, hs, hb⟩
  have hh : Had w1 W.heap.size (w0.heap.size + 1) (fun g => g = w0.heap.size ∨ g = w0.heap.size + 1) ⟨5, 5, 5 + n, [], []⟩ n (.slice none 0 0) [] := by
    have := HB0.out.size
    exact ⟨hs, OKs.new 5 n (by omega) (by omega), World.ownsRow_nil _ _ _ _, fun g hg => by simp [Value.ownBlock] at hg, by simp, fun f => by simp, fun g hg => by rcases hg with rfl | rfl <;> omega, Nat.le_trans this hb.size⟩
  have HH := Lib.hid hh
  have HB := Lib.hid (HB0.out.trans (hb.mono HB0.out.size))
  clear hs hb hh
  generalize w0.heap.size + 1 = sb at HH ⊢
  go_wp2_with fail
  go_loopw [7, 26] (fun v i wr => OnceRel W sb len n v i wr) (fun _ i _ => len - (intOf i).toNat)
  case atStart => exact ⟨0, by omega, rfl, _, _, _, HH.out, HB.out⟩
  case round =>
    obtain ⟨k, hk, rfl, F, s, H, hh, hbw⟩ := hrel
    have HH := Lib.hid hh
    have HBW := Lib.hid hbw
    clear hh hbw
    by_cases hkl : k < len
    · obtain ⟨b, o, x, rfl, hx, hx0, hx1⟩ := row_at HZ.out k hkl
      have hbl : b < W.heap.size := World.block_lt_of_cell? _ _ hx
      have hxr := (HBW.out.cell (p := ⟨b, o + k, none⟩) hbl).trans hx
      clear hx hbl
      by_cases h200 : 200 ≤ k
      · go_wp2
        go_ret
        exact ⟨rfl, HBW.out⟩
      · have hl := HH.out.length
        have hsm := HH.out.small
        obtain ⟨Av, cv, hv⟩ := row_slice HH.out.row
        subst hv
        by_cases h3 : 0 < x % 3
        · have e3 : decide (0 < x % 3) = true := by simpa using h3
          clear h3
          go_wp2_with fail
          refine (take_any sb F s 5 n _ HH.out.st HH.out.ok).mono ?_
          rintro e w2 (⟨f, s', rfl, hs, hkp, ok', hnt, htk, hf1, hf2, hlt⟩ | ⟨rfl, hs, hkp, hlt⟩)
          · have HR2 := Lib.hid (HH.out.keeps (s' := s) hkp)
            have e5 : decide ((H.length : Int) < n) = true := by simp; omega
            have HS := Lib.hid hs
            have HKP := Lib.hid hkp
            have HOK := Lib.hid ok'
            have HNT := Lib.hid hnt
            have HTK := Lib.hid htk
            have HL := Lib.hid hl
            clear hs hkp ok' hnt htk hl hlt
            go_wp2_with fail
            clear e5
            go_loop [58] (fun j => ∃ q : Nat, q ≤ H.length ∧ j = .int .i64 q) (fun j => H.length - (intOf j).toNat)
            case atStart => exact ⟨0, by omega, rfl⟩
            case round =>
              obtain ⟨q, hq, rfl⟩ := hrel
              by_cases hql : q < H.length
              · have hr := HR2.out
                obtain ⟨g, cap, hv, _, hgl⟩ := hr.form (by omega)
                injection hv with hv1 hv2 hv3
                subst hv1
                subst hv3
                have hc : w2.cell? ⟨g, q, none⟩ = some (.int .i64 H[q]) := by rw [hr.cellAt q (by omega), List.getElem?_map, List.getElem?_eq_getElem hql]; rfl
                have hne : (H[q] == f) = false := by
                  rw [beq_eq_false_iff_ne]
                  exact fun e => HNT.out ((HH.out.mem f).1 (e ▸ List.getElem_mem hql))
                clear hr hv2 hgl
                generalize H[q] = y at hc hne
                go_wp2
                go_round
                case rel => exact ⟨q + 1, by omega, by go_num⟩
                case measure => simp [intOf]; omega
              · obtain rfl : q = H.length := by omega
                have e6 : decide (f < 5) = false := by simp; omega
                have e7 : decide (5 + n ≤ f) = false := by simp; omega
                go_wp2_with fail
                refine (taken_any sb F s' f _ HS.out (fwf (by omega))).mono ?_
                rintro e w' ⟨rfl, rfl⟩
                rw [show decide (f ∈ s'.taken) = true by rw [HTK.out]; simp]
                go_wp2_with (at_builtin; refine wpList_append_any _ rfl (.tmp 81) (.tmp 83) _ rfl W.heap.size 3 i0 _ 1 8 Try.underlying22 hi0 hz0 hz1 hz2 rfl (by decide) _ H.length (H.map iv) rfl (HR2.out.alloc _) (w2.heap.size + 1) (some ⟨w2.heap.size, 0, none⟩) 1 1 [.int .i64 f] rfl (reads_one _ _ _) (one_int _) (by unfold maxLen; omega) (by omega) (by have := HH.out.base; have := HKP.out.size; simp; omega) ?_; intro v3 w3 hown hgrow hat; have HOWN := Lib.hid hown; have HG := Lib.hid hgrow; have HAT := Lib.hid hat; clear hown hgrow hat)
                go_roundw
                case rel =>
                  obtain ⟨hd, hkk⟩ := had_more HH.out HS.out HKP.out HOK.out HNT.out HTK.out HOWN.out HG.out HAT.out
                  exact once_step hkl rfl hd HBW.out hkk (fun g hg => hg.elim (HH.out.low g) (fun hg => (HH.out.row.lt g hg).1))
                case measure => simp [intOf]; omega
          · have e5 : decide ((H.length : Int) < n) = false := by simp; omega
            have HKP := Lib.hid hkp
            have HD : Hid (Had w2 W.heap.size sb F s n (.slice Av H.length cv) H) := Lib.hid ⟨hs, HH.out.ok, HH.out.keeps (s' := s) hkp, HH.out.out, HH.out.nd, HH.out.mem, HH.out.low, Nat.le_trans HH.out.base hkp.size⟩
            clear hs hkp hl hlt
            go_wp2
            go_roundw
            case rel => exact once_step hkl rfl HD.out HBW.out HKP.out HH.out.low
            case measure => simp [intOf]; omega
        · have e3 : decide (0 < x % 3) = false := by simpa using h3
          clear h3
          by_cases hH : H.length = 0
          · have e4 : ((H.length : Int) == 0) = true := by rw [beq_iff_eq]; omega
            clear hH
            go_wp2_with fail
            refine (take_any sb F s 5 n _ HH.out.st HH.out.ok).mono ?_
            rintro e w2 (⟨f, s', rfl, hs, hkp, ok', hnt, htk, hf1, hf2, hlt⟩ | ⟨rfl, hs, hkp, hlt⟩)
            · have HR2 := Lib.hid (HH.out.keeps (s' := s) hkp)
              have e5 : decide ((H.length : Int) < n) = true := by simp; omega
              have HS := Lib.hid hs
              have HKP := Lib.hid hkp
              have HOK := Lib.hid ok'
              have HNT := Lib.hid hnt
              have HTK := Lib.hid htk
              have HL := Lib.hid hl
              clear hs hkp ok' hnt htk hl hlt
              go_wp2_with fail
              clear e5
              go_loop [58] (fun j => ∃ q : Nat, q ≤ H.length ∧ j = .int .i64 q) (fun j => H.length - (intOf j).toNat)
              case atStart => exact ⟨0, by omega, rfl⟩
              case round =>
                obtain ⟨q, hq, rfl⟩ := hrel
                by_cases hql : q < H.length
                · have hr := HR2.out
                  obtain ⟨g, cap, hv, _, hgl⟩ := hr.form (by omega)
                  injection hv with hv1 hv2 hv3
                  subst hv1
                  subst hv3
                  have hc : w2.cell? ⟨g, q, none⟩ = some (.int .i64 H[q]) := by rw [hr.cellAt q (by omega), List.getElem?_map, List.getElem?_eq_getElem hql]; rfl
                  have hne : (H[q] == f) = false := by
                    rw [beq_eq_false_iff_ne]
                    exact fun e => HNT.out ((HH.out.mem f).1 (e ▸ List.getElem_mem hql))
                  clear hr hv2 hgl
                  generalize H[q] = y at hc hne
                  go_wp2
                  go_round
                  case rel => exact ⟨q + 1, by omega, by go_num⟩
                  case measure => simp [intOf]; omega
                · obtain rfl : q = H.length := by omega
                  have e6 : decide (f < 5) = false := by simp; omega
                  have e7 : decide (5 + n ≤ f) = false := by simp; omega
                  go_wp2_with fail
                  refine (taken_any sb F s' f _ HS.out (fwf (by omega))).mono ?_
                  rintro e w' ⟨rfl, rfl⟩
                  rw [show decide (f ∈ s'.taken) = true by rw [HTK.out]; simp]
                  go_wp2_with (at_builtin; refine wpList_append_any _ rfl (.tmp 81) (.tmp 83) _ rfl W.heap.size 3 i0 _ 1 8 Try.underlying22 hi0 hz0 hz1 hz2 rfl (by decide) _ H.length (H.map iv) rfl (HR2.out.alloc _) (w2.heap.size + 1) (some ⟨w2.heap.size, 0, none⟩) 1 1 [.int .i64 f] rfl (reads_one _ _ _) (one_int _) (by unfold maxLen; omega) (by omega) (by have := HH.out.base; have := HKP.out.size; simp; omega) ?_; intro v3 w3 hown hgrow hat; have HOWN := Lib.hid hown; have HG := Lib.hid hgrow; have HAT := Lib.hid hat; clear hown hgrow hat)
                  go_roundw
                  case rel =>
                    obtain ⟨hd, hkk⟩ := had_more HH.out HS.out HKP.out HOK.out HNT.out HTK.out HOWN.out HG.out HAT.out
                    exact once_step hkl rfl hd HBW.out hkk (fun g hg => hg.elim (HH.out.low g) (fun hg => (HH.out.row.lt g hg).1))
                  case measure => simp [intOf]; omega
            · have e5 : decide ((H.length : Int) < n) = false := by simp; omega
              have HKP := Lib.hid hkp
              have HD : Hid (Had w2 W.heap.size sb F s n (.slice Av H.length cv) H) := Lib.hid ⟨hs, HH.out.ok, HH.out.keeps (s' := s) hkp, HH.out.out, HH.out.nd, HH.out.mem, HH.out.low, Nat.le_trans HH.out.base hkp.size⟩
              clear hs hkp hl hlt
              go_wp2
              go_roundw
              case rel => exact once_step hkl rfl HD.out HBW.out HKP.out HH.out.low
              case measure => simp [intOf]; omega
          · have e4 : ((H.length : Int) == 0) = false := by rw [beq_eq_false_iff_ne]; omega
            have hHp : 0 < H.length := by omega
            obtain ⟨g, cv', hv, hle, hgl, hcells⟩ := had_index HH.out hHp
            injection hv with hv1 hv2 hv3
            subst hv1
            subst hv3
            clear hv2
            obtain ⟨m, hm⟩ := Int.eq_ofNat_of_zero_le (Int.emod_nonneg x (show (H.length : Int) ≠ 0 by omega))
            have hml : m < H.length := by have := Int.emod_lt_of_pos x (show (0 : Int) < H.length by omega); omega
            have hc : wr.cell? ⟨g, m, none⟩ = some (.int .i64 H[m]) := hcells m hml
            have hft : H[m] ∈ s.taken := (HH.out.mem _).1 (List.getElem_mem hml)
            have HCM := Lib.hid (cutL_mem H m hml HH.out.nd)
            have HCN := Lib.hid (cutL_nodup H m hml HH.out.nd)
            generalize H[m] = f at hc hft HCM
            have hfr := HH.out.ok.tr f hft
            have hhi := HH.out.ok.hi
            have hhe := HH.out.ok.end_
            have HFT := Lib.hid hft
            have HOK := Lib.hid (HH.out.ok.back hft)
            have HWF := Lib.hid (fwf (f := f) (by omega))
            have HSZ := Lib.hid HH.out.ok.sizes
            have HLL := Lib.hid hl
            have hml2 : m + 1 ≤ H.length := by omega
            have hmc : m ≤ cv := by omega
            have hwm : IntKind.i64.wrap ((m : Int) + 1) = (m : Int) + 1 := IntWalk.i64_in _ (by omega)
            have htm : ((m : Int) + 1).toNat = m + 1 := by omega
            have hpm : 0 ≤ (m : Int) + 1 := by omega
            have hI1 : (m : Int) ≤ (m : Int) + 1 := by omega
            have hI2 : (m : Int) + 1 ≤ (H.length : Int) := by omega
            clear hcells hft hfr hhi hhe hl hH
            go_wp2_with fail
            refine (give_ok sb F s f _ HH.out.st HWF.out HFT.out (by have := HSZ.out; omega)).mono ?_
            rintro e w2 ⟨rfl, F', hs, hF', hkp⟩
            have HS2 := Lib.hid hs
            have HF2 := Lib.hid hF'
            have HK2 := Lib.hid hkp
            have HR2 := Lib.hid (HH.out.keeps (s' := s) hkp)
            have HBS := Lib.hid (show W.heap.size ≤ w2.heap.size from Nat.le_trans HH.out.base hkp.size)
            clear hs hF' hkp hc
            have hnf : f ∉ (s.back f).taken := by
              show f ∉ s.taken.erase f
              rw [HH.out.ok.tn.mem_erase_iff]
              exact fun h => h.1 rfl
            have HNF := Lib.hid hnf
            clear hnf
            go_wp2_with fail
            refine (taken_any sb F' (s.back f) f _ HS2.out HWF.out).mono ?_
            rintro e w' ⟨rfl, rfl⟩
            rw [show decide (f ∈ (s.back f).taken) = false by simpa using HNF.out]
            go_wp2_with fail
            refine (give_none sb F' (s.back f) f _ HS2.out HWF.out HNF.out).mono ?_
            rintro e w' ⟨rfl, rfl⟩
            have HRD := Lib.hid (Reads.of_own HR2.out)
            by_cases hcc : cv = m + 1
            · have HRC := Lib.hid (Reads.cut HRD.out (k := m + 1) (cap := cv) hml2 hle)
              rw [if_pos hcc, Nat.mul_one] at HRC
              go_wp2_with fail
              refine wp_region_plan_by (fun _ _ => True) ⟨fun _ => trivial, fun _ _ => trivial⟩ [(1, false), (2, false), (3, false), (5, false), (6, false), (7, false), (8, false), (0, true), (4, true), (9, true), (10, false)] (by kernel_rfl) (by kernel_rfl) (fun _ d _ _ _ h => by cases d <;> exact h) ?_
              iterate 7 (refine plan_take (v := ?_) rfl (by kernel_rfl) ?_ ?_; rotate_left; (focus (intro w' hw'; go_simp; try with_reducible rfl)); simp only [Act.put, List.setIfInBounds_toArray, List.set_cons_zero, List.set_cons_succ])
              refine plan_turn rfl (by kernel_rfl) (fun K hK => ?_)
              go_simp
              refine hK _ _ ⟨trivial, ?_⟩
              clear hK K
              refine plan_turn rfl (by kernel_rfl) (fun K hK => ?_)
              refine wp_append_any _ (.tmp 109) (.tmp 112) _ rfl W.heap.size 3 i0 _ 1 8 Try.underlying22 hi0 hz0 hz1 hz2 rfl (by decide) _ 0 [] rfl (World.ownsRow_made w2.drew #[] 0 HBS.out (by unfold maxLen; omega) rfl) w2.heap.size (some ⟨g, 0, none⟩) m _ ((H.map iv).take m) rfl ((reads_take HRD.out (by omega)).below (Below.alloc (Below.refl _ _).drew (Nat.le_refl _) _)) (take_one H m) (by unfold maxLen; omega) (by omega) (by have := HBS.out; simp; omega) ?_
              intro v4 w4 hown hgrow hat
              have HO4 := Lib.hid hown
              have HB4 := Lib.hid (show Below w2.heap.size w2 w4 from (Below.alloc (Below.refl w2.heap.size w2).drew (Nat.le_refl _) (.cells #[] 3)).grown hgrow (by simp) (fun k hk => by cases hk; exact Nat.le_refl _))
              have HA4 := Lib.hid (show ∀ k, v4.ownBlock = some k → w2.heap.size ≤ k from fun k hk => by
                rcases hat with e | e
                · rw [e] at hk; cases hk; exact Nat.le_refl _
                · rw [e] at hk; simp at hk; omega)
              refine hK _ _ ⟨trivial, ?_⟩
              clear hK K hown hgrow hat
              simp only [Act.put, List.setIfInBounds_toArray, List.set_cons_zero, List.set_cons_succ]
              refine plan_turn rfl (by kernel_rfl) (fun K hK => ?_)
              refine wp_append_any _ (.tmp 113) (.tmp 117) _ rfl W.heap.size 3 i0 _ 1 8 Try.underlying22 hi0 hz0 hz1 hz2 rfl (by decide) _ (0 + m) ([] ++ (H.map iv).take m) rfl HO4.out w2.heap.size _ (H.length - (m + 1)) _ ((H.map iv).drop (m + 1)) rfl ((HRC.out).below HB4.out) (drop_one H (m + 1)) (by unfold maxLen; omega) (by omega) (Nat.le_trans HBS.out HB4.out.size) ?_
              intro v5 w5 hown hgrow hat
              have HO5 := Lib.hid (show w5.ownsRow W.heap.size 3 1 v5 (cutL H m).length ((cutL H m).map iv) by
                have h := hown
                rw [Nat.zero_add, List.nil_append] at h
                rw [cutL_length H m hml]
                unfold cutL
                rw [List.map_append, List.map_take, List.map_drop]
                exact h)
              have HB5 := Lib.hid (HB4.out.grown hgrow HB4.out.size HA4.out)
              have HA5 := Lib.hid (show ∀ k, v5.ownBlock = some k → w2.heap.size ≤ k from fun k hk => by
                rcases hat with e | e
                · exact HA4.out k (e ▸ hk)
                · rw [e] at hk
                  have := HB4.out.size
                  simp at hk; omega)
              obtain ⟨A5, c5, hv5⟩ := row_slice HO5.out
              subst hv5
              refine hK _ _ ⟨trivial, ?_⟩
              clear hK K hown hgrow hat
              simp only [Act.put, List.setIfInBounds_toArray, List.set_cons_zero, List.set_cons_succ]
              iterate 1 (refine plan_take (v := ?_) rfl (by kernel_rfl) ?_ ?_; rotate_left; (focus (intro w' hw'; go_simp; try with_reducible rfl)); simp only [Act.put, List.setIfInBounds_toArray, List.set_cons_zero, List.set_cons_succ])
              refine plan_end ?_
              have HS5 := Lib.hid (HS2.out.keeps (Keeps.of_below (F := fun _ => False) HB5.out) (fun _ _ h => h))
              have hfree : (s.back f).end_ - (s.back f).next + (((s.back f).given.length : Nat) : Int) = n - ((cutL H m).length : Int) := by
                have a1 := HOK.out.len
                have a2 := HOK.out.end_
                have a3 : (s.back f).taken.length = (cutL H m).length := by
                  have p := (List.perm_ext_iff_of_nodup HOK.out.tn HCN.out).2 (fun y => by
                    rw [HCM.out y]
                    show y ∈ s.taken.erase f ↔ _
                    rw [HH.out.ok.tn.mem_erase_iff, HH.out.mem y])
                  exact p.length_eq
                omega
              have htl : (((s.back f).taken.length : Nat) : Int) = ((cutL H m).length : Int) := by
                have p := (List.perm_ext_iff_of_nodup HOK.out.tn HCN.out).2 (fun y => by
                  rw [HCM.out y]
                  show y ∈ s.taken.erase f ↔ _
                  rw [HH.out.ok.tn.mem_erase_iff, HH.out.mem y])
                rw [p.length_eq]
              have HFREE := Lib.hid hfree
              have HTL := Lib.hid htl
              have hcl : (cutL H m).length ≤ 255 := by rw [cutL_length H m hml]; omega
              clear hfree htl hwm htm hpm hI1 hI2
              go_wp2_with fail
              refine (free_any sb F' (s.back f) _ HS5.out (by have := HOK.out.lo; omega) HOK.out.hi (by have := HOK.out.end_; omega) (by have := HOK.out.sizes; omega)).mono ?_
              rintro e w' ⟨rfl, rfl⟩
              rw [HFREE.out]
              have HS6 := Lib.hid (HS5.out.keeps ((Keeps.refl (fun _ => False) w5).drew) (fun _ _ h => h))
              go_wp2_with fail
              refine (used_any sb F' (s.back f) _ HS6.out).mono ?_
              rintro e w' ⟨rfl, rfl⟩
              rw [HTL.out]
              go_wp2_with fail
              refine (used_any sb F' (s.back f) _ HS6.out).mono ?_
              rintro e w' ⟨rfl, rfl⟩
              rw [HTL.out]
              go_wp2
              go_roundw
              case rel =>
                have hB5 : Keeps (fun _ => False) w2 w5.drew := (Keeps.of_below HB5.out).drew
                have hG : ∀ q, F' q → W.heap.size ≤ q := fun q hq => (HF2.out q hq).elim (HH.out.low q) (fun h => Nat.le_trans HH.out.base h)
                refine once_step (G := F) hkl rfl ⟨HS6.out, HOK.out, HO5.out, fun q hq hf => ?_, HCN.out, fun y => ?_, hG, Nat.le_trans HBS.out HB5.out.size⟩ HBW.out (HK2.out.trans hB5 (fun _ h => h.elim)) HH.out.low
                · have h1 := HA5.out q hq
                  have h2 := HS2.out.bound hf
                  omega
                · rw [HCM.out y]
                  show _ ↔ y ∈ s.taken.erase f
                  rw [HH.out.ok.tn.mem_erase_iff, HH.out.mem y]
              case measure => simp [intOf]; omega
            · have HRC := Lib.hid (Reads.cut HRD.out (k := m + 1) (cap := cv) hml2 hle)
              rw [if_neg hcc, Nat.mul_one, show Option.map (fun x : Addr => x.add (m + 1)) (some ⟨g, 0, none⟩) = some ⟨g, m + 1, none⟩ from by simp [Addr.add]] at HRC
              go_wp2_with fail
              refine wp_region_plan_by (fun _ _ => True) ⟨fun _ => trivial, fun _ _ => trivial⟩ [(1, false), (2, false), (3, false), (5, false), (6, false), (7, false), (8, false), (0, true), (4, true), (9, true), (10, false)] (by kernel_rfl) (by kernel_rfl) (fun _ d _ _ _ h => by cases d <;> exact h) ?_
              iterate 7 (refine plan_take (v := ?_) rfl (by kernel_rfl) ?_ ?_; rotate_left; (focus (intro w' hw'; go_simp; try with_reducible rfl)); simp only [Act.put, List.setIfInBounds_toArray, List.set_cons_zero, List.set_cons_succ])
              refine plan_turn rfl (by kernel_rfl) (fun K hK => ?_)
              go_simp
              refine hK _ _ ⟨trivial, ?_⟩
              clear hK K
              refine plan_turn rfl (by kernel_rfl) (fun K hK => ?_)
              refine wp_append_any _ (.tmp 109) (.tmp 112) _ rfl W.heap.size 3 i0 _ 1 8 Try.underlying22 hi0 hz0 hz1 hz2 rfl (by decide) _ 0 [] rfl (World.ownsRow_made w2.drew #[] 0 HBS.out (by unfold maxLen; omega) rfl) w2.heap.size (some ⟨g, 0, none⟩) m _ ((H.map iv).take m) rfl ((reads_take HRD.out (by omega)).below (Below.alloc (Below.refl _ _).drew (Nat.le_refl _) _)) (take_one H m) (by unfold maxLen; omega) (by omega) (by have := HBS.out; simp; omega) ?_
              intro v4 w4 hown hgrow hat
              have HO4 := Lib.hid hown
              have HB4 := Lib.hid (show Below w2.heap.size w2 w4 from (Below.alloc (Below.refl w2.heap.size w2).drew (Nat.le_refl _) (.cells #[] 3)).grown hgrow (by simp) (fun k hk => by cases hk; exact Nat.le_refl _))
              have HA4 := Lib.hid (show ∀ k, v4.ownBlock = some k → w2.heap.size ≤ k from fun k hk => by
                rcases hat with e | e
                · rw [e] at hk; cases hk; exact Nat.le_refl _
                · rw [e] at hk; simp at hk; omega)
              refine hK _ _ ⟨trivial, ?_⟩
              clear hK K hown hgrow hat
              simp only [Act.put, List.setIfInBounds_toArray, List.set_cons_zero, List.set_cons_succ]
              refine plan_turn rfl (by kernel_rfl) (fun K hK => ?_)
              refine wp_append_any _ (.tmp 113) (.tmp 117) _ rfl W.heap.size 3 i0 _ 1 8 Try.underlying22 hi0 hz0 hz1 hz2 rfl (by decide) _ (0 + m) ([] ++ (H.map iv).take m) rfl HO4.out w2.heap.size _ (H.length - (m + 1)) _ ((H.map iv).drop (m + 1)) rfl ((HRC.out).below HB4.out) (drop_one H (m + 1)) (by unfold maxLen; omega) (by omega) (Nat.le_trans HBS.out HB4.out.size) ?_
              intro v5 w5 hown hgrow hat
              have HO5 := Lib.hid (show w5.ownsRow W.heap.size 3 1 v5 (cutL H m).length ((cutL H m).map iv) by
                have h := hown
                rw [Nat.zero_add, List.nil_append] at h
                rw [cutL_length H m hml]
                unfold cutL
                rw [List.map_append, List.map_take, List.map_drop]
                exact h)
              have HB5 := Lib.hid (HB4.out.grown hgrow HB4.out.size HA4.out)
              have HA5 := Lib.hid (show ∀ k, v5.ownBlock = some k → w2.heap.size ≤ k from fun k hk => by
                rcases hat with e | e
                · exact HA4.out k (e ▸ hk)
                · rw [e] at hk
                  have := HB4.out.size
                  simp at hk; omega)
              obtain ⟨A5, c5, hv5⟩ := row_slice HO5.out
              subst hv5
              refine hK _ _ ⟨trivial, ?_⟩
              clear hK K hown hgrow hat
              simp only [Act.put, List.setIfInBounds_toArray, List.set_cons_zero, List.set_cons_succ]
              iterate 1 (refine plan_take (v := ?_) rfl (by kernel_rfl) ?_ ?_; rotate_left; (focus (intro w' hw'; go_simp; try with_reducible rfl)); simp only [Act.put, List.setIfInBounds_toArray, List.set_cons_zero, List.set_cons_succ])
              refine plan_end ?_
              have HS5 := Lib.hid (HS2.out.keeps (Keeps.of_below (F := fun _ => False) HB5.out) (fun _ _ h => h))
              have hfree : (s.back f).end_ - (s.back f).next + (((s.back f).given.length : Nat) : Int) = n - ((cutL H m).length : Int) := by
                have a1 := HOK.out.len
                have a2 := HOK.out.end_
                have a3 : (s.back f).taken.length = (cutL H m).length := by
                  have p := (List.perm_ext_iff_of_nodup HOK.out.tn HCN.out).2 (fun y => by
                    rw [HCM.out y]
                    show y ∈ s.taken.erase f ↔ _
                    rw [HH.out.ok.tn.mem_erase_iff, HH.out.mem y])
                  exact p.length_eq
                omega
              have htl : (((s.back f).taken.length : Nat) : Int) = ((cutL H m).length : Int) := by
                have p := (List.perm_ext_iff_of_nodup HOK.out.tn HCN.out).2 (fun y => by
                  rw [HCM.out y]
                  show y ∈ s.taken.erase f ↔ _
                  rw [HH.out.ok.tn.mem_erase_iff, HH.out.mem y])
                rw [p.length_eq]
              have HFREE := Lib.hid hfree
              have HTL := Lib.hid htl
              have hcl : (cutL H m).length ≤ 255 := by rw [cutL_length H m hml]; omega
              clear hfree htl hwm htm hpm hI1 hI2
              go_wp2_with fail
              refine (free_any sb F' (s.back f) _ HS5.out (by have := HOK.out.lo; omega) HOK.out.hi (by have := HOK.out.end_; omega) (by have := HOK.out.sizes; omega)).mono ?_
              rintro e w' ⟨rfl, rfl⟩
              rw [HFREE.out]
              have HS6 := Lib.hid (HS5.out.keeps ((Keeps.refl (fun _ => False) w5).drew) (fun _ _ h => h))
              go_wp2_with fail
              refine (used_any sb F' (s.back f) _ HS6.out).mono ?_
              rintro e w' ⟨rfl, rfl⟩
              rw [HTL.out]
              go_wp2_with fail
              refine (used_any sb F' (s.back f) _ HS6.out).mono ?_
              rintro e w' ⟨rfl, rfl⟩
              rw [HTL.out]
              go_wp2
              go_roundw
              case rel =>
                have hB5 : Keeps (fun _ => False) w2 w5.drew := (Keeps.of_below HB5.out).drew
                have hG : ∀ q, F' q → W.heap.size ≤ q := fun q hq => (HF2.out q hq).elim (HH.out.low q) (fun h => Nat.le_trans HH.out.base h)
                refine once_step (G := F) hkl rfl ⟨HS6.out, HOK.out, HO5.out, fun q hq hf => ?_, HCN.out, fun y => ?_, hG, Nat.le_trans HBS.out HB5.out.size⟩ HBW.out (HK2.out.trans hB5 (fun _ h => h.elim)) HH.out.low
                · have h1 := HA5.out q hq
                  have h2 := HS2.out.bound hf
                  omega
                · rw [HCM.out y]
                  show _ ↔ y ∈ s.taken.erase f
                  rw [HH.out.ok.tn.mem_erase_iff, HH.out.mem y]
              case measure => simp [intOf]; omega
    · obtain rfl : k = len := by omega
      go_wp2
      go_ret
      exact ⟨rfl, HBW.out⟩
end Law
end Go.Proofs.Ytihmeehcjdgfgaa
