/- Merged texts: TlbT, TlbU, TlbV, TlbW, MmuC, MmuD. -/
import Derived.Test.YtecalibnnfcaeaaMm13
import Derived.DeepKeys
/- The reference's List, Right; Same. -/
namespace Go.Proofs.Ytecalibnnfcaeaa
open Go.RowKit Go.ChangeShapes

set_option maxRecDepth 20000 in
set_option maxHeartbeats 4000000 in
theorem rlist_any (gx n m : Nat) (G : Nat → Prop) (L0 : List Sl) (T : List (List En)) (W : World) (hK : TOk T n m) (hR : RefG W gx G n m L0) (hP : L0.Perm (listT 0 T)) :
    Calls Try.prog 25 #[.pointer (some ⟨gx, 0, none⟩)] W fun e w' => ∃ v, e = .returned v ∧ LiR W T v (listT 0 T) w' := by
  obtain ⟨i0, hi0, hz0, hz1, hz2⟩ := info_parts info_sl
  have HK := Lib.hid hK
  have HR := Lib.hid hR
  have HP := Lib.hid hP
  have hnb := hK.n64
  have hmb := hK.m8
  clear hK hR hP
  go_enter Try.func25, Try.ntmps25
  go_wp2_with fail
  go_loopw [3, 4] (fun v i wr => ∃ a : Nat, a ≤ n ∧ i = .int .i64 a ∧ LiR W T v (listT 0 (T.take a)) wr) (fun _ i _ => n - (intOf i).toNat)
  case atStart => exact ⟨0, by omega, rfl, World.ownsRow_nil _ _ _ _, Below.refl _ _⟩
  case round =>
    obtain ⟨a, ha, rfl, hO, hE⟩ := hrel
    have HO1 := Lib.hid hO
    have HE1 := Lib.hid hE
    obtain ⟨A, c, hg, _⟩ := HR.out.below hE
    have hg0 := hg.cell 0
    have hgl := hg.lt
    simp only [List.getElem?_toArray, List.getElem?_cons_zero, List.getElem?_cons_succ] at hg0
    clear hO hE hg
    by_cases hal : a < n
    · go_wp2_with fail
      clear hg0 hgl
      go_loopw [3, 5] (fun v i wr => ∃ k : Nat, k ≤ m ∧ i = .int .i64 k ∧ LiR W T v (listT 0 (T.take a) ++ listW a 0 ((T.getD a []).take k)) wr) (fun _ i _ => m - (intOf i).toNat)
      case atStart => exact ⟨0, by omega, rfl, by rw [List.take_zero]; show LiR W T _ (_ ++ []) _; rw [List.append_nil]; exact ⟨HO1.out, HE1.out⟩⟩
      case round =>
        obtain ⟨k, hk, rfl, hO, hE⟩ := hrel
        rename World => wr
        have HO2 := Lib.hid hO
        have HE2 := Lib.hid hE
        have HWY : Hid ((T.getD a []).length = m) := Lib.hid (HK.out.ways a hal)
        have HTL : Hid (T.length = n) := Lib.hid HK.out.len
        obtain ⟨A, c, hg, _⟩ := HR.out.below hE
        have hg1 := hg.cell 1
        have hgl := hg.lt
        simp only [List.getElem?_toArray, List.getElem?_cons_zero, List.getElem?_cons_succ] at hg1
        clear hO hE hg
        by_cases hkl : k < m
        · obtain ⟨e, he⟩ : ∃ e, (T.getD a [])[k]? = some e := ⟨_, List.getElem?_eq_getElem (by rw [HWY.out]; exact hkl)⟩
          have HST : Hid (listT 0 (T.take a) ++ listW a 0 ((T.getD a []).take (k + 1)) = (listT 0 (T.take a) ++ listW a 0 ((T.getD a []).take k)) ++ (if e.full then [⟨a, k, e.asid, e.page, e.lf⟩] else [])) := Lib.hid (by
            rw [take_snoc he, listW_snoc, List.append_assoc, Nat.zero_add, List.length_take, HWY.out, Nat.min_eq_left (by omega)])
          have HLN : Hid ((listT 0 (T.take a) ++ listW a 0 ((T.getD a []).take k)).length ≤ 600) := Lib.hid (by
            have h1 := listT_le m (T.take a) 0 (fun s hs => by
              obtain ⟨i, hi, rfl⟩ := List.mem_take_iff_getElem.1 hs
              have := HK.out.ways i (by have := HTL.out; omega)
              rw [List.getD_eq_getElem?_getD, List.getElem?_eq_getElem (by omega)] at this
              exact this)
            have h2 := listW_le a ((T.getD a []).take k) 0
            rw [List.length_take] at h1 h2
            rw [List.length_append]
            have h3 : min a T.length * m ≤ 64 * 8 := Nat.mul_le_mul (by omega) hmb
            omega)
          obtain ⟨N, hN⟩ : ∃ N, listT 0 (T.take a) ++ listW a 0 ((T.getD a []).take k) = N := ⟨_, rfl⟩
          rw [hN] at HST HLN HO2
          clear hN
          have HE := Lib.hid he
          clear he
          obtain ⟨A1, c1, rfl⟩ := tlb_row_form HO2.out
          go_wp2_with fail
          refine (rat_T gx n m n m L0 T a k _ HK.out (HR.out.below HE2.out).ref HP.out).mono ?_
          rintro _ w3 ⟨rfl, hb3⟩
          have HO3 := Lib.hid (sown_below HO2.out hb3)
          have HE3 := Lib.hid (HE2.out.trans (hb3.mono HE2.out.size))
          clear hg1 hgl hb3 HO2 HE2
          cases hf : e.full
          · rw [at_not HE.out hf]
            rw [hf] at HST
            have HO4 := Lib.hid (HO3.out.alloc (.cells sl0.cs 99))
            have HE4 := Lib.hid (HE3.out.alloc HE3.out.size (.cells sl0.cs 99))
            clear hf
            go_wp2_with (first | ((with_reducible refine wl_store_new 99 (.tmp 6) (.tmp 29) rfl ?_ w3 (World.heap w3).size 99 #[.int .i64 0, .int .i64 0, .int .i64 0, .int .u64 0, .bool false, .bool false, .bool false, .bool false, .bool false, .bool false, .bool false, .bool false, .int .i64 0, .int .u64 0, .int .i64 0, .int .u64 0] sl0.cs ?_ ?_ ?_ ?_ ?_ ?_ ?_ ?_); exact rfl; exact rfl; exact rfl; exact rfl; exact rfl; exact rfl; exact slot_row sl0; exact cs_one sl0))
            go_roundw
            case rel =>
              refine ⟨k + 1, hkl, by go_num, ?_⟩
              rw [HST.out]
              show LiR W T _ (N ++ []) _
              rw [List.append_nil]
              exact ⟨HO4.out, HE4.out⟩
            case measure => simp [intOf]; omega
          · rw [at_yes HE.out hf]
            rw [hf] at HST
            obtain ⟨x, hx⟩ : ∃ x : Sl, x = ⟨a, k, e.asid, e.page, e.lf⟩ := ⟨_, rfl⟩
            rw [← hx] at HST
            rw [← hx, show ((some x).getD sl0).cs = x.cs from rfl, show (some x).isSome = true from rfl]
            have HO4 := Lib.hid (HO3.out.alloc (.cells x.cs 99))
            have HE4 := Lib.hid (HE3.out.alloc HE3.out.size (.cells x.cs 99))
            have HX4 : Hid (Blk (w3.alloc (.cells x.cs 99)) w3.heap.size 99 #[.int .i64 x.set, .int .i64 x.way, .int .i64 x.asid, .int .u64 x.page, .bool x.lf.v, .bool x.lf.r, .bool x.lf.w, .bool x.lf.x, .bool x.lf.u, .bool x.lf.g, .bool x.lf.a, .bool x.lf.d, .int .i64 x.lf.rsw, .int .u64 x.lf.ppn, .int .i64 x.lf.lev, .int .u64 x.lf.pos]) := Lib.hid (Blkf.new_at w3 99 (0, 0) x.cs rfl)
            clear hf hx
            have hsz4 := HE3.out.size
            go_wp2_with (first | ((with_reducible refine wl_store_new 99 (.tmp 6) (.tmp 29) rfl ?_ w3 (World.heap w3).size 99 #[.int .i64 0, .int .i64 0, .int .i64 0, .int .u64 0, .bool false, .bool false, .bool false, .bool false, .bool false, .bool false, .bool false, .bool false, .int .i64 0, .int .u64 0, .int .i64 0, .int .u64 0] x.cs ?_ ?_ ?_ ?_ ?_ ?_ ?_ ?_); exact rfl; exact rfl; exact rfl; exact rfl; exact rfl; exact rfl; exact slot_row x; exact cs_one x) | ((with_reducible refine wl_load 99 (.tmp 6) rfl ?_ w3.heap.size 0 #[.int .i64 x.set, .int .i64 x.way, .int .i64 x.asid, .int .u64 x.page, .bool x.lf.v, .bool x.lf.r, .bool x.lf.w, .bool x.lf.x, .bool x.lf.u, .bool x.lf.g, .bool x.lf.a, .bool x.lf.d, .int .i64 x.lf.rsw, .int .u64 x.lf.ppn, .int .i64 x.lf.lev, .int .u64 x.lf.pos] ?_ HX4.out.range ?_ ?_); exact rfl; exact rfl; exact ex_row) | (at_builtin; (refine wpList_append_any _ rfl (.tmp 32) (.tmp 34) _ rfl W.heap.size 99 i0 _ 16 72 Try.underlying38 hi0 hz0 hz1 hz2 rfl (by decide) _ N.length (slC N) rfl (HO4.out.alloc _) (w3.heap.size + 1 + 1) (some ⟨w3.heap.size + 1, 0, none⟩) 1 1 (Sl.vs x) rfl (reads_sl_at _ _ x (w3.heap.size + 1) (by simp)) (one_sl _) (by unfold maxLen; have := HLN.out; omega) (by have := HLN.out; omega) (by simp; omega) ?_; intro v3 w3 hown hgrow hat; have HOWN := Lib.hid hown; have HE5 := Lib.hid ((HE4.out.alloc HE4.out.size _).grown hgrow (by have := HE3.out.size; simp; omega) (fun g hg => (HO4.out.lt g hg).1)); clear hown hgrow hat)))
            go_roundw
            case rel =>
              refine ⟨k + 1, hkl, by go_num, ?_⟩
              rw [HST.out]
              refine ⟨?_, HE5.out⟩
              have h1 := HOWN.out
              rw [← slC_snoc, show N.length + 1 = (N ++ [x]).length from by simp] at h1
              exact h1
            case measure => simp [intOf]; omega
        · obtain rfl : m = k := by omega
          have HNX : Hid (listT 0 (T.take a) ++ listW a 0 ((T.getD a []).take m) = listT 0 (T.take (a + 1))) := Lib.hid (by
            have hlt : a < T.length := by have := HTL.out; omega
            have hs : T.getD a [] = T[a]'hlt := by rw [List.getD_eq_getElem?_getD, List.getElem?_eq_getElem hlt]; rfl
            have ht : (T.getD a []).take m = T[a]'hlt := by rw [List.take_of_length_le (Nat.le_of_eq HWY.out), hs]
            rw [ht, List.take_add_one, List.getElem?_eq_getElem hlt]
            show _ = listT 0 (T.take a ++ [T[a]'hlt])
            rw [listT_snoc, List.length_take, Nat.min_eq_left (Nat.le_of_lt hlt), Nat.zero_add])
          go_wp2_with fail
          go_roundw
          case rel => exact ⟨a + 1, hal, by go_num, by rw [← HNX.out]; exact ⟨HO2.out, HE2.out⟩⟩
          case measure => simp [intOf]; omega
    · obtain rfl : n = a := by omega
      go_wp2_with fail
      go_ret
      refine ⟨_, rfl, ?_⟩
      have h1 := HO1.out
      rw [List.take_of_length_le (Nat.le_of_eq HK.out.len)] at h1
      exact ⟨h1, HE1.out⟩
end Go.Proofs.Ytecalibnnfcaeaa

/- Right; Same. -/
namespace Go.Proofs.Ytecalibnnfcaeaa
open Go.RowKit Go.ChangeShapes

def powL : List Int := [1, 2, 4, 8, 16, 32, 64]
theorem pow_mem {s : Int} {k : Nat} {v : Int} (h : powL[k]? = some v) (e : v = s) : powB s = true := by
  subst e
  have hk : k < 7 := (List.getElem?_eq_some_iff.1 h).1
  rcases (show k = 0 ∨ k = 1 ∨ k = 2 ∨ k = 3 ∨ k = 4 ∨ k = 5 ∨ k = 6 by omega) with rfl | rfl | rfl | rfl | rfl | rfl | rfl <;> (simp [powL] at h; subst h; rfl)
theorem pow_none {s : Int} (h : ∀ j v, j < 7 → powL[j]? = some v → v ≠ s) : powB s = false := by
  have h0 := h 0 1 (by decide) rfl
  have h1 := h 1 2 (by decide) rfl
  have h2 := h 2 4 (by decide) rfl
  have h3 := h 3 8 (by decide) rfl
  have h4 := h 4 16 (by decide) rfl
  have h5 := h 5 32 (by decide) rfl
  have h6 := h 6 64 (by decide) rfl
  unfold powB
  simp
  omega
/-- Entries whose numbers are in range. -/
def EnWf (e : En) : Prop := tlb_LfWf e.lf ∧ (Lit.int .i64 e.asid).wf = true ∧ e.page < 18446744073709551616
def WfT (T : List (List En)) : Prop := ∀ s ∈ T, ∀ e ∈ s, e.full = true → EnWf e
def SlWf (x : Sl) : Prop := tlb_LfWf x.lf ∧ (Lit.int .i64 x.asid).wf = true ∧ x.page < 18446744073709551616 ∧ (Lit.int .i64 x.set).wf = true ∧ (Lit.int .i64 x.way).wf = true
def Sl.lits (x : Sl) : List Lit := [.int .i64 x.set, .int .i64 x.way, .int .i64 x.asid, .int .u64 x.page] ++ x.lf.lits
theorem c_slot : Try.prog.cellsOf 99 = 16 := by kernel_rfl
theorem page_wf {n : Nat} (h : n < 18446744073709551616) : (Lit.int .u64 (n : Int)).wf = true := by
  simp [Lit.wf, IntKind.min, IntKind.max, IntKind.signed, IntKind.bits]; omega
theorem key_slot (d : Nat) (x : Sl) (h : SlWf x) : Try.prog.keyLits (d + 4) 99 x.vs = some x.lits := by
  obtain ⟨h1, h2, h3, h4, h5⟩ := h
  have hp := tlb_key_leaf d x.lf h1
  have hpg := page_wf h3
  unfold Tf.vs at hp
  unfold Program.keyLits Sl.vs Sl.lits
  simp [Try.underlying99, c_slot, c_leaf, c_int, c_u64, key_int, key_u64, hp, h2, hpg, h4, h5]
theorem slot_same (W : World) (x : Sl) (h : SlWf x) : (Op.equalIn 10000 99 (.agg x.cs) (.agg x.cs)).run Try.prog W = .ok true W := by
  have hd := run_equalIn_deep (P := Try.prog) 9994 6 99 (by kernel_rfl)
  obtain ⟨r, hr, hi⟩ := hd W 6 6 _ _ _ _ (by kernel_rfl : (Value.agg x.cs).formed Try.prog 99 = true) (by kernel_rfl : (Value.agg x.cs).formed Try.prog 99 = true) (key_slot 2 x h) (key_slot 2 x h)
  rw [hi.2 rfl] at hr
  exact hr
theorem range_drew {w : World} {b o : Nat} {l : List Value} (h : w.rangeAt b o l) : w.drew.rangeAt b o l := h
set_option maxHeartbeats 1000000 in
theorem same_any (A1 A2 : Option Addr) (c1 c2 : Nat) (L : List Sl) (W : World) (hL : L.length ≤ 600) (h1 : RdS W (.slice A1 L.length c1) L) (h2 : RdS W (.slice A2 L.length c2) L) (hw : ∀ x ∈ L, SlWf x) :
    Calls Try.prog 23 #[.slice A1 L.length c1, .slice A2 L.length c2] W fun e w' => e = .returned (.bool true) ∧ Below W.heap.size W w' := by
  obtain ⟨n, hn⟩ : ∃ n, n = L.length := ⟨_, rfl⟩
  have H1 := Lib.hid h1
  have H2 := Lib.hid h2
  have HW := Lib.hid hw
  rw [← hn] at hL ⊢
  have HN := Lib.hid hn
  clear h1 h2 hw hn
  go_enter Try.func23, Try.ntmps23
  go_wp2_with fail
  go_loopw [13] (fun i wr => ∃ k : Nat, k ≤ n ∧ i = .int .i64 k ∧ Below W.heap.size W wr) (fun i _ => n - (intOf i).toNat)
  case atStart => exact ⟨0, by omega, rfl, Below.refl _ _⟩
  case round =>
    obtain ⟨k, hk, rfl, hb⟩ := hrel
    have HB := Lib.hid hb
    clear hb
    by_cases hkl : k < n
    · obtain ⟨x, hx⟩ : ∃ x, L[k]? = some x := ⟨_, List.getElem?_eq_getElem (by rw [← HN.out]; exact hkl)⟩
      have hne : L ≠ [] := fun e => by rw [e] at hx; simp at hx
      obtain ⟨b1, e1, r1⟩ := H1.out.range hne
      obtain ⟨b2, e2, r2⟩ := H2.out.range hne
      obtain rfl : A1 = some ⟨b1, 0, none⟩ := by injection e1
      obtain rfl : A2 = some ⟨b2, 0, none⟩ := by injection e2
      have R1 := Lib.hid (range_drew (range_below (r1 k x hx) HB.out))
      have R2 := Lib.hid (range_drew (range_below (r2 k x hx) HB.out))
      have HXW := Lib.hid (HW.out x (List.mem_of_getElem? hx))
      clear e1 e2 r1 r2 hne hx
      have hki : (k : Int) < (n : Int) := by omega
      go_wp2_with fail
      have heq := fun W => slot_same W x HXW.out
      refine wp_region_plan [(0, false), (1, false), (2, false), (3, false), (4, false), (5, false), (6, false), (7, false), (8, false)] (by kernel_rfl) (by kernel_rfl) (fun _ d _ _ _ h => by cases d <;> exact h) ?_
      iterate 3 (refine plan_take (v := ?_) rfl (by kernel_rfl) ?_ ?_; rotate_left; (focus (intro w' hw'; try go_simp; try with_reducible rfl)); simp only [Act.put, List.setIfInBounds_toArray, List.set_cons_zero, List.set_cons_succ])
      refine plan_take rfl (by kernel_rfl) (fun w' h' => run_load_op 99 (.tmp 18) rfl b1 (k * 16) x.cs rfl (range_below R1.out h') (slot_row x)) ?_
      simp only [Act.put, List.setIfInBounds_toArray, List.set_cons_zero, List.set_cons_succ]
      iterate 3 (refine plan_take (v := ?_) rfl (by kernel_rfl) ?_ ?_; rotate_left; (focus (intro w' hw'; try go_simp; try with_reducible rfl)); simp only [Act.put, List.setIfInBounds_toArray, List.set_cons_zero, List.set_cons_succ])
      refine plan_take rfl (by kernel_rfl) (fun w' h' => run_load_op 99 (.tmp 22) rfl b2 (k * 16) x.cs rfl (range_below R2.out h') (slot_row x)) ?_
      simp only [Act.put, List.setIfInBounds_toArray, List.set_cons_zero, List.set_cons_succ]
      iterate 1 (refine plan_take (v := ?_) rfl (by kernel_rfl) ?_ ?_; rotate_left; (focus (intro w' hw'; try go_simp; try with_reducible rfl)); simp only [Act.put, List.setIfInBounds_toArray, List.set_cons_zero, List.set_cons_succ])
      refine plan_end ?_
      clear heq
      go_wp2_with fail
      go_roundw
      case rel => exact ⟨k + 1, hkl, by go_num, HB.out.drew⟩
      case measure => simp [intOf]; omega
    · obtain rfl : n = k := by omega
      go_wp2_with fail
      go_ret
      exact ⟨rfl, HB.out⟩
end Go.Proofs.Ytecalibnnfcaeaa

/- Both buffers in one world. -/
namespace Go.Proofs.Ytecalibnnfcaeaa
open Go.RowKit

theorem TOk.fill {T : List (List En)} {n m va : Nat} {asid pick : Int} {lf : Tf} (h : TOk T n m) (hl : levOK lf.lev = true) : TOk (fillS T va asid lf pick) n m := by
  refine ⟨by rw [fillS_length, h.len], h.n0, h.n64, h.m0, h.m8, fun i hi => ?_, valid_fill h.val _ _ _ _ hl⟩
  unfold fillS
  by_cases hiq : i = fillQ T va lf
  · subst hiq
    rw [List.getD_eq_getElem?_getD, List.getElem?_set_self (by rw [h.len]; exact hi)]
    show (List.set _ _ _).length = m
    rw [List.length_set]
    exact h.ways _ hi
  · rw [List.getD_eq_getElem?_getD, List.getElem?_set_ne (Ne.symm hiq), ← List.getD_eq_getElem?_getD]
    exact h.ways i hi
theorem TOk.fence {T : List (List En)} {n m : Nat} (h : TOk T n m) (vo : Option Nat) (ao : Option Int) : TOk (fenceS T vo ao) n m := by
  refine ⟨by rw [fenceS_length, h.len], h.n0, h.n64, h.m0, h.m8, fun i hi => ?_, valid_fence h.val _ _⟩
  unfold fenceS
  have hw := h.ways i hi
  rw [List.getD_eq_getElem?_getD, List.getElem?_eq_getElem (by rw [h.len]; exact hi)] at hw
  rw [List.getD_eq_getElem?_getD, List.getElem?_map, List.getElem?_eq_getElem (by rw [h.len]; exact hi)]
  show (List.map _ _).length = m
  rw [List.length_map]
  exact hw
theorem TOk.empty {n m : Nat} (h : rightS n m = true) : TOk (emptyT n m) n m := by
  have hb : 1 ≤ n ∧ n ≤ 64 ∧ 1 ≤ m ∧ m ≤ 8 := by
    unfold rightS at h
    simp only [Bool.and_eq_true, decide_eq_true_eq] at h
    obtain ⟨h1, h2, h3⟩ := h
    have : ¬ ((n : Int) < 1 ∨ 64 < (n : Int)) := fun h4 => by rw [pow_not h4] at h1; cases h1
    omega
  refine ⟨by simp [emptyT], by omega, by omega, by omega, by omega, fun i hi => ?_, empty_valid n m⟩
  unfold emptyT
  rw [List.getD_eq_getElem?_getD, List.getElem?_replicate, if_pos hi]
  show (List.replicate m en0).length = m
  simp
theorem WfT.fill {T : List (List En)} {va : Nat} {asid pick : Int} {lf : Tf} (h : WfT T) (hl : tlb_LfWf lf) (ha : (Lit.int .i64 asid).wf = true) : WfT (fillS T va asid lf pick) := by
  intro s hs e he hf
  unfold fillS at hs
  rcases List.mem_or_eq_of_mem_set hs with h1 | h1
  · exact h s h1 e he hf
  · subst h1
    rcases List.mem_or_eq_of_mem_set he with h2 | h2
    · by_cases hq : fillQ T va lf < T.length
      · have hm : T.getD (fillQ T va lf) [] ∈ T := by rw [List.getD_eq_getElem?_getD, List.getElem?_eq_getElem hq]; exact List.getElem_mem _
        exact h _ hm e h2 hf
      · rw [List.getD_eq_getElem?_getD, List.getElem?_eq_none (by omega)] at h2
        simp at h2
    · subst h2
      exact ⟨hl, ha, Nat.lt_trans (pgN_lt va lf.lev) (by decide)⟩
theorem WfT.fence {T : List (List En)} (h : WfT T) (vo : Option Nat) (ao : Option Int) : WfT (fenceS T vo ao) := by
  intro s hs e he hf
  unfold fenceS at hs
  obtain ⟨s0, hs0, rfl⟩ := List.mem_map.1 hs
  obtain ⟨e0, he0, rfl⟩ := List.mem_map.1 he
  unfold fen at hf ⊢
  split at hf
  · simp [en0] at hf
  · rename_i hg
    rw [if_neg hg]
    exact h s0 hs0 e0 he0 hf
theorem WfT.empty (n m : Nat) : WfT (emptyT n m) := by
  intro s hs e he hf
  unfold emptyT at hs
  have h1 := List.eq_of_mem_replicate hs
  subst h1
  have h2 := List.eq_of_mem_replicate he
  subst h2
  simp [en0] at hf
theorem way_wf {l : List En} {lev : Int} {va : Nat} {asid : Int} {lf : Tf} (h : ∀ e ∈ l, e.full = true → EnWf e) (hf : wayFind l lev va asid = some lf) : tlb_LfWf lf := by
  unfold wayFind at hf
  cases hx : l.find? (hitB lev va asid) with
  | none => rw [hx] at hf; simp at hf
  | some e =>
    rw [hx] at hf
    have h1 := List.find?_some hx
    have h2 := List.mem_of_find?_eq_some hx
    simp at hf
    subst hf
    unfold hitB matchB hasB at h1
    simp only [Bool.and_eq_true] at h1
    exact (h e h2 h1.2.1.1).1
theorem getD_wf {T : List (List En)} (h : WfT T) (i : Nat) : ∀ e ∈ T.getD i [], e.full = true → EnWf e := by
  intro e he hf
  by_cases hi : i < T.length
  · have hm : T.getD i [] ∈ T := by rw [List.getD_eq_getElem?_getD, List.getElem?_eq_getElem hi]; exact List.getElem_mem _
    exact h _ hm e he hf
  · rw [List.getD_eq_getElem?_getD, List.getElem?_eq_none (by omega)] at he
    simp at he
theorem find_wf {T : List (List En)} {va : Nat} {asid : Int} (h : WfT T) : tlb_LfWf ((findS T va asid).getD tlb_lf0) := by
  cases hf : findS T va asid with
  | none => unfold tlb_LfWf; decide
  | some lf =>
    unfold findS at hf
    simp only [Option.or_eq_some_iff] at hf
    rcases hf with hf | ⟨_, hf | ⟨_, hf⟩⟩
    · exact way_wf (getD_wf h _) hf
    · exact way_wf (getD_wf h _) hf
    · exact way_wf (getD_wf h _) hf
theorem small_wf {k : Nat} (h : k < 1000) : (Lit.int .i64 (k : Int)).wf = true := by
  simp [Lit.wf, IntKind.min, IntKind.max, IntKind.signed, IntKind.bits]; omega
theorem slots_wf {T : List (List En)} {n m : Nat} (hK : TOk T n m) (h : WfT T) : ∀ x ∈ listT 0 T, SlWf x := by
  intro x hx
  obtain ⟨s, y, h1, h2, h3⟩ := mem_listT hx
  cases hT : (T.getD s [])[y]? with
  | none => rw [hT] at h3; simp at h3
  | some e =>
    rw [hT] at h3
    obtain ⟨_, _, hf, hxe⟩ := ent_key (e := e) (by simpa using h3)
    have hs : s < n := by
      rcases Nat.lt_or_ge s n with h | h
      · exact h
      · have e0 : T[s]? = none := List.getElem?_eq_none (by rw [hK.len]; exact h)
        rw [List.getD_eq_getElem?_getD, e0] at hT
        simp at hT
    have hy : y < m := by
      have := (List.getElem?_eq_some_iff.1 hT).1
      rw [hK.ways s hs] at this
      exact this
    have hw := getD_wf h s e (List.mem_of_getElem? hT) hf
    have := hK.n64
    have := hK.m8
    rw [hxe]
    exact ⟨hw.1, hw.2.1, hw.2.2, small_wf (by omega), small_wf (by omega)⟩
/-- A buffer of sets T, and the reference's of sets T2, and locals. -/
structure TP (W : World) (g gs : Nat) (Gb : Nat → Nat) (gx : Nat) (G : Nat → Prop) (n m : Nat) (T T2 : List (List En)) (L : List Sl) (loc : List (Nat × TypeId × Array Value)) (w : World) : Prop where
  buf : BufAt w g gs Gb T m
  ref : RefG w gx G n m L
  ok : TOk T n m
  ok2 : TOk T2 n m
  perm : L.Perm (listT 0 T2)
  wf : WfT T
  wf2 : WfT T2
  low : ∀ k, bufF g gs Gb n k → W.heap.size ≤ k
  lowG : ∀ k, G k → W.heap.size ≤ k
  apart : ∀ k, bufF g gs Gb n k → ¬ G k
  bel : Below W.heap.size W w
  loc : ∀ p ∈ loc, Blk w p.1 p.2.1 p.2.2 ∧ ¬ bufF g gs Gb n p.1 ∧ ¬ G p.1
section
variable {W w w' : World} {g gs gx n m : Nat} {Gb : Nat → Nat} {G : Nat → Prop} {T T2 T' : List (List En)} {L L' : List Sl} {loc loc' : List (Nat × TypeId × Array Value)}
theorem TP.ltB (h : TP W g gs Gb gx G n m T T2 L loc w) {k : Nat} (hk : bufF g gs Gb n k) : k < w.heap.size := h.buf.lt k (by rw [h.ok.len]; exact hk)
theorem TP.step (h : TP W g gs Gb gx G n m T T2 L loc w) (hb : Below w.heap.size w w') : TP W g gs Gb gx G n m T T2 L loc w' :=
  ⟨h.buf.below hb, h.ref.below hb, h.ok, h.ok2, h.perm, h.wf, h.wf2, h.low, h.lowG, h.apart, h.bel.trans (hb.mono h.bel.size), fun p hp => ⟨(h.loc p hp).1.below hb (h.loc p hp).1.lt, (h.loc p hp).2⟩⟩
theorem TP.push (h : TP W g gs Gb gx G n m T T2 L loc w) (cs : Array Value) (t : TypeId) {b : Nat} (hb : b = w.heap.size) : TP W g gs Gb gx G n m T T2 L ((b, t, cs) :: loc) (w.alloc (.cells cs t)) := by
  subst hb
  have h1 := h.step ((Below.refl w.heap.size w).alloc (Nat.le_refl _) (.cells cs t))
  refine ⟨h1.buf, h1.ref, h1.ok, h1.ok2, h1.perm, h1.wf, h1.wf2, h1.low, h1.lowG, h1.apart, h1.bel, fun p hp => ?_⟩
  rcases List.mem_cons.1 hp with rfl | hp
  · exact ⟨Blkf.new_at _ _ _ _ rfl, fun hf => absurd (h.ltB hf) (Nat.lt_irrefl _), fun hg => absurd (h.ref.lt _ hg) (Nat.lt_irrefl _)⟩
  · exact h1.loc p hp
theorem TP.only (h : TP W g gs Gb gx G n m T T2 L loc w) (hl : ∀ p ∈ loc', p ∈ loc) : TP W g gs Gb gx G n m T T2 L loc' w :=
  ⟨h.buf, h.ref, h.ok, h.ok2, h.perm, h.wf, h.wf2, h.low, h.lowG, h.apart, h.bel, fun p hp => h.loc p (hl p hp)⟩
theorem TP.at_ (h : TP W g gs Gb gx G n m T T2 L loc w) (i : Nat) (p : Nat × TypeId × Array Value) (hp : loc[i]? = some p) : Blk w p.1 p.2.1 p.2.2 := (h.loc p (List.mem_of_getElem? hp)).1
theorem TP.range (h : TP W g gs Gb gx G n m T T2 L loc w) (i : Nat) (p : Nat × TypeId × Array Value) (hp : loc[i]? = some p) : w.rangeAt p.1 0 p.2.2.toList := (h.at_ i p hp).range
theorem TP.turnB (h : TP W g gs Gb gx G n m T T2 L loc w) (hB : BufAt w' g gs Gb T' m) (hk : Keeps (bufF g gs Gb n) w w') (hok : TOk T' n m) (hwf : WfT T') : TP W g gs Gb gx G n m T' T2 L loc w' :=
  ⟨hB, h.ref.keeps hk (fun b hg hf => h.apart b hf hg), hok, h.ok2, h.perm, hwf, h.wf2, h.low, h.lowG, h.apart, below_step h.bel hk h.low h.bel.size, fun p hp => ⟨hk.blk (h.loc p hp).1 (h.loc p hp).2.1, (h.loc p hp).2⟩⟩
theorem TP.turnR (h : TP W g gs Gb gx G n m T T2 L loc w) (hp : PutG w gx G n m L' w') (hpm : L'.Perm (listT 0 T')) (hok : TOk T' n m) (hwf : WfT T') : ∃ G', TP W g gs Gb gx G' n m T T' L' loc w' := by
  obtain ⟨G', h1, h2, h3⟩ := hp
  have hx := h.ref.at0
  refine ⟨G', h.buf.move fun k hk hf => h3.block k hk (fun e => h.apart k (by rw [← h.ok.len]; exact hf) (e ▸ hx)), h1, h.ok, hok, hpm, h.wf, hwf, h.low, fun k hk => ?_, fun k hk hg => ?_, below_step h.bel h3 (fun k e => e ▸ h.lowG _ hx) h.bel.size, fun p hp => ?_⟩
  · rcases h2 k hk with h4 | h4
    · exact h.lowG k h4
    · exact Nat.le_trans h.bel.size h4
  · rcases h2 k hg with h4 | h4
    · exact h.apart k hk h4
    · exact absurd (h.ltB hk) (by omega)
  · obtain ⟨b1, b2, b3⟩ := h.loc p hp
    refine ⟨h3.blk b1 (fun e => b3 (e ▸ hx)), b2, fun hg => ?_⟩
    rcases h2 _ hg with h4 | h4
    · exact b3 h4
    · exact absurd b1.lt (by omega)
end
end Go.Proofs.Ytecalibnnfcaeaa

/- The methods of both buffers, in one world. -/
namespace Go.Proofs.Ytecalibnnfcaeaa
open Go.RowKit

def fillT (T : List (List En)) (va : Nat) (asid : Int) (lf : Tf) (pick : Int) : List (List En) := if levOK lf.lev then fillS T va asid lf pick else T
theorem rfence_any (gx n m : Nat) (G : Nat → Prop) (L : List Sl) (T : List (List En)) (vo : Option Nat) (ao : Option Int) (V A : Value) (W : World) (hva : ∀ va, vo = some va → va < 18446744073709551616) (hV : OneU W vo V) (hA : OneI W ao A) (hK : TOk T n m) (hR : RefG W gx G n m L) (hP : L.Perm (listT 0 T)) :
    Calls Try.prog 19 #[.pointer (some ⟨gx, 0, none⟩), V, A] W fun e w' => e = .returned (.int .i64 ((fenceN T vo ao : Nat) : Int)) ∧ PutG W gx G n m (stayP vo ao L) w' := by
  cases vo with
  | none =>
    obtain rfl : V = .slice none 0 0 := hV
    cases ao with
    | none =>
      obtain rfl : A = .slice none 0 0 := hA
      exact rfence_NN gx n m G L T W hK hR hP
    | some a =>
      obtain ⟨ga, rfl, hc⟩ := hA
      exact rfence_NS gx n m G L T W ga a hc hK hR hP
  | some va =>
    obtain ⟨gv, rfl, hcv⟩ := hV
    cases ao with
    | none =>
      obtain rfl : A = .slice none 0 0 := hA
      exact rfence_SN gx n m G L T W gv va (hva va rfl) hcv hK hR hP
    | some a =>
      obtain ⟨ga, rfl, hc⟩ := hA
      exact rfence_SS gx n m G L T W gv va (hva va rfl) hcv ga a hc hK hR hP
section
variable {W w w' : World} {g gs gx n m : Nat} {Gb : Nat → Nat} {G : Nat → Prop} {T T2 : List (List En)} {L : List Sl} {loc : List (Nat × TypeId × Array Value)}
theorem TP.add {b : Nat} {t : TypeId} {cs : Array Value} (h : TP W g gs Gb gx G n m T T2 L loc w) (hb : Blk w b t cs) (h1 : ¬ bufF g gs Gb n b) (h2 : ¬ G b) : TP W g gs Gb gx G n m T T2 L ((b, t, cs) :: loc) w :=
  ⟨h.buf, h.ref, h.ok, h.ok2, h.perm, h.wf, h.wf2, h.low, h.lowG, h.apart, h.bel, fun p hp => by
    rcases List.mem_cons.1 hp with rfl | hp
    · exact ⟨hb, h1, h2⟩
    · exact h.loc p hp⟩
theorem TP.keep {G' : Nat → Prop} {T' T2' : List (List En)} {L' : List Sl} (h : TP W g gs Gb gx G n m T T2 L loc w) (h' : TP W g gs Gb gx G' n m T' T2' L' loc w') (i : Nat) (p : Nat × TypeId × Array Value) (hp : loc[i]? = some p) : w'.heap[p.1]? = w.heap[p.1]? := (h'.at_ i p hp).trans (h.at_ i p hp).symm
theorem tp_bfill (h : TP W g gs Gb gx G n m T T2 L loc w) (va : Nat) (asid : Int) (lf : Tf) (pick : Int) (hv : va < 18446744073709551616) (hpk : -9223372036854775808 ≤ pick ∧ pick < 9223372036854775808) (hl : tlb_LfWf lf) (ha : (Lit.int .i64 asid).wf = true) :
    Calls Try.prog 75 #[.pointer (some ⟨g, 0, none⟩), .int .u64 (va : Int), .int .i64 asid, .agg lf.cs, .int .i64 pick] w fun e w' => e = .returned (.bool (levOK lf.lev)) ∧ TP W g gs Gb gx G n m (fillT T va asid lf pick) T2 L loc w' := by
  have hn := h.ok.len
  cases hlv : levOK lf.lev with
  | true =>
    refine (fill_yes g gs Gb T m va asid lf pick w hv hpk (by rw [hn]; exact h.ok.n0) (by rw [hn]; exact h.ok.n64) h.ok.m0 h.ok.m8 h.buf hlv).mono ?_
    rintro e w1 ⟨h1, h2, h3⟩
    unfold fillT
    rw [if_pos hlv]
    exact ⟨h1, h.turnB h2 (by rw [← hn]; exact h3) (h.ok.fill hlv) (h.wf.fill hl ha)⟩
  | false =>
    refine (fill_no g gs Gb T m va asid lf pick w h.buf hlv).mono ?_
    rintro e w1 ⟨h1, h2, h3⟩
    unfold fillT
    rw [if_neg (by rw [hlv]; decide)]
    exact ⟨h1, h.turnB h2 (by rw [← hn]; exact h3) h.ok h.wf⟩
theorem tp_rfill (h : TP W g gs Gb gx G n m T T2 L loc w) (va : Nat) (asid : Int) (lf : Tf) (pick : Int) (hv : va < 18446744073709551616) (hpk : -9223372036854775808 ≤ pick ∧ pick < 9223372036854775808) (hl : tlb_LfWf lf) (ha : (Lit.int .i64 asid).wf = true) :
    Calls Try.prog 48 #[.pointer (some ⟨gx, 0, none⟩), .int .u64 (va : Int), .int .i64 asid, .agg lf.cs, .int .i64 pick] w fun e w' => e = .returned (.bool (levOK lf.lev)) ∧ ∃ G' L', TP W g gs Gb gx G' n m T (fillT T2 va asid lf pick) L' loc w' := by
  cases hlv : levOK lf.lev with
  | true =>
    refine (rfill_yes gx n m va asid lf pick G L T2 w hv hpk h.ok2 h.ref h.perm hlv).mono ?_
    rintro e w1 ⟨h1, L', h2, h3⟩
    unfold fillT
    rw [if_pos hlv]
    obtain ⟨G', h4⟩ := h.turnR h2 h3 (h.ok2.fill hlv) (h.wf2.fill hl ha)
    exact ⟨h1, G', L', h4⟩
  | false =>
    refine (rfill_no gx va asid lf pick w hlv).mono ?_
    rintro e w1 ⟨h1, h2⟩
    unfold fillT
    rw [if_neg (by rw [hlv]; decide)]
    exact ⟨h1, G, L, h.step h2⟩
theorem tp_bfence (h : TP W g gs Gb gx G n m T T2 L loc w) (vo : Option Nat) (ao : Option Int) (V A : Value) (hva : ∀ va, vo = some va → va < 18446744073709551616) (hV : OneU w vo V) (hA : OneI w ao A) :
    Calls Try.prog 35 #[.pointer (some ⟨g, 0, none⟩), V, A] w fun e w' => e = .returned (.int .i64 ((fenceN T vo ao : Nat) : Int)) ∧ TP W g gs Gb gx G n m (fenceS T vo ao) T2 L loc w' := by
  have hn := h.ok.len
  refine (fence_any g gs Gb T m vo ao V A w hva (by rw [hn]; exact h.ok.n0) (by rw [hn]; exact h.ok.n64) h.ok.m0 h.ok.m8 h.buf h.ok.val hV hA).mono ?_
  rintro e w1 ⟨h1, h2, h3⟩
  exact ⟨h1, h.turnB h2 (by rw [← hn]; exact h3) (h.ok.fence vo ao) (h.wf.fence vo ao)⟩
theorem tp_rfence (h : TP W g gs Gb gx G n m T T2 L loc w) (vo : Option Nat) (ao : Option Int) (V A : Value) (hva : ∀ va, vo = some va → va < 18446744073709551616) (hV : OneU w vo V) (hA : OneI w ao A) :
    Calls Try.prog 19 #[.pointer (some ⟨gx, 0, none⟩), V, A] w fun e w' => e = .returned (.int .i64 ((fenceN T2 vo ao : Nat) : Int)) ∧ ∃ G' L', TP W g gs Gb gx G' n m T (fenceS T2 vo ao) L' loc w' := by
  refine (rfence_any gx n m G L T2 vo ao V A w hva hV hA h.ok2 h.ref h.perm).mono ?_
  rintro e w1 ⟨h1, h2⟩
  obtain ⟨G', h4⟩ := h.turnR h2 (fence_perm h.perm vo ao).1 (h.ok2.fence vo ao) (h.wf2.fence vo ao)
  exact ⟨h1, G', _, h4⟩
theorem tp_bfind (h : TP W g gs Gb gx G n m T T2 L loc w) (va : Nat) (asid : Int) (hv : va < 18446744073709551616) :
    Calls Try.prog 73 #[.pointer (some ⟨g, 0, none⟩), .int .u64 (va : Int), .int .i64 asid] w fun e w' => e = .returned (.tuple #[.agg ((findS T va asid).getD tlb_lf0).cs, .bool (findS T va asid).isSome]) ∧ TP W g gs Gb gx G n m T T2 L loc w' := by
  have hn := h.ok.len
  refine (tlb_find_any g gs Gb T m va asid w hv (by rw [hn]; exact h.ok.n0) (by rw [hn]; exact h.ok.n64) h.ok.m8 h.buf h.ok.val).mono ?_
  rintro e w1 ⟨h1, h2⟩
  exact ⟨h1, h.step h2⟩
theorem tp_rfind (h : TP W g gs Gb gx G n m T T2 L loc w) (va : Nat) (asid : Int) (hv : va < 18446744073709551616) :
    Calls Try.prog 46 #[.pointer (some ⟨gx, 0, none⟩), .int .u64 (va : Int), .int .i64 asid] w fun e w' => e = .returned (.tuple #[.agg ((findS T2 va asid).getD tlb_lf0).cs, .bool (findS T2 va asid).isSome]) ∧ TP W g gs Gb gx G n m T T2 L loc w' := by
  refine (rfind_any gx n m va asid G L T2 w hv h.ok2 h.ref h.perm).mono ?_
  rintro e w1 ⟨h1, h2⟩
  exact ⟨h1, h.step h2⟩
theorem tp_blen (h : TP W g gs Gb gx G n m T T L loc w) :
    Calls Try.prog 26 #[.pointer (some ⟨g, 0, none⟩)] w fun e w' => e = .returned (.int .i64 ((L.length : Nat) : Int)) ∧ Below w.heap.size w w' := by
  refine (len_any g gs Gb T m w (by rw [h.ok.len]; exact h.ok.n64) h.ok.m8 h.buf).mono ?_
  rintro e w1 ⟨h1, h2⟩
  exact ⟨by rw [h1, h.perm.length_eq], h2⟩
theorem tp_blist (h : TP W g gs Gb gx G n m T T2 L loc w) :
    Calls Try.prog 24 #[.pointer (some ⟨g, 0, none⟩)] w fun e w' => ∃ A c, e = .returned (.slice A (listT 0 T).length c) ∧ RdS w' (.slice A (listT 0 T).length c) (listT 0 T) ∧ TP W g gs Gb gx G n m T T2 L loc w' := by
  refine (list_any g gs Gb T m w (by rw [h.ok.len]; exact h.ok.n64) h.ok.m8 h.buf).mono ?_
  rintro e w1 ⟨v, rfl, h1, h2⟩
  obtain ⟨A, c, rfl⟩ := tlb_row_form h1
  exact ⟨A, c, rfl, RdS.of_own h1, h.step h2⟩
theorem tp_rlist (h : TP W g gs Gb gx G n m T T2 L loc w) :
    Calls Try.prog 25 #[.pointer (some ⟨gx, 0, none⟩)] w fun e w' => ∃ A c, e = .returned (.slice A (listT 0 T2).length c) ∧ RdS w' (.slice A (listT 0 T2).length c) (listT 0 T2) ∧ Below w.heap.size w w' ∧ TP W g gs Gb gx G n m T T2 L loc w' := by
  refine (rlist_any gx n m G L T2 w h.ok2 h.ref h.perm).mono ?_
  rintro e w1 ⟨v, rfl, h1, h2⟩
  obtain ⟨A, c, rfl⟩ := tlb_row_form h1
  exact ⟨A, c, rfl, RdS.of_own h1, h2, h.step h2⟩
theorem tp_start {W w1 w2 w2' : World} (hr : rightS n m = true) (hb : Below W.heap.size W w1) (hn : NewRel w1 w1.heap.size m n w2') (hb2 : Below w2'.heap.size w2' w2) :
    ∃ gs Gb, TP W w1.heap.size gs Gb w2.heap.size (fun b => b = w2.heap.size) n m (emptyT n m) (emptyT n m) [] [] (w2.alloc (.cells #[.int .i64 (n : Int), .int .i64 (m : Int), .slice none 0 0] 40)) := by
  have hk := TOk.empty hr
  obtain ⟨gs, Gb, h1, h2, h3⟩ := new_buf (Nat.le_refl _) hk.n0 hn
  replace h1 := h1.below hb2
  replace h3 := h3.trans (hb2.mono h3.size)
  have ha : Below w2.heap.size w2 (w2.alloc (.cells #[.int .i64 (n : Int), .int .i64 (m : Int), .slice none 0 0] 40)) := (Below.refl _ _).alloc (Nat.le_refl _) _
  have hlen : (emptyT n m).length = n := hk.len
  refine ⟨gs, Gb, h1.below ha, ⟨none, 0, Blkf.new_at _ _ _ _ rfl, ⟨none, 0, rfl, fun h => absurd rfl h⟩, rfl, fun a e => (by cases e), fun b e => (by subst e; simp)⟩, hk, hk, ?_, WfT.empty n m, WfT.empty n m, fun k hk' => Nat.le_trans hb.size (h2 k hk'), fun k e => by subst e; exact Nat.le_trans hb.size h3.size, fun k hk' e => ?_, (hb.trans (h3.mono hb.size)).trans (ha.mono (Nat.le_trans hb.size h3.size)), fun p hp => by simp at hp⟩
  · have : listT 0 (emptyT n m) = [] := by
      have : ∀ l ∈ listT 0 (emptyT n m), False := fun x hx => by
        obtain ⟨s, y, _, _, h3⟩ := mem_listT hx
        cases hT : ((emptyT n m).getD s [])[y]? with
        | none => rw [hT] at h3; simp at h3
        | some e =>
          rw [hT] at h3
          obtain ⟨_, _, hf, _⟩ := ent_key (e := e) (by simpa using h3)
          have hm := List.mem_of_getElem? hT
          by_cases hs : s < n
          · unfold emptyT at hm
            rw [List.getD_eq_getElem?_getD, List.getElem?_replicate, if_pos hs] at hm
            have := List.eq_of_mem_replicate (by simpa using hm)
            subst this
            simp [en0] at hf
          · unfold emptyT at hm
            rw [List.getD_eq_getElem?_getD, List.getElem?_replicate, if_neg hs] at hm
            simp at hm
      exact List.eq_nil_iff_forall_not_mem.2 this
    rw [this]
  · subst e
    exact absurd (h1.lt _ (by rw [hlen]; exact hk')) (Nat.lt_irrefl _)
end
end Go.Proofs.Ytecalibnnfcaeaa

/- Both buffers as objects; their calls. -/
namespace Go.Proofs.Ytecalibnnfcaeaa
open Go.RowKit

/-- A buffer's entries are right. -/
def TG (T : List (List En)) (n m : Nat) : Prop := TOk T n m ∧ WfT T
/-- A buffer of n sets of m ways that holds T. -/
def bufO (g n m : Nat) (T : List (List En)) : Obj where
  At w F := TG T n m ∧ (∃ gs G, BufAt w g gs G T m ∧ ∀ b, bufF g gs G n b → F b) ∧ ∀ b, F b → b < w.heap.size
  keeps := fun ⟨h1, ⟨gs, G, h2, h3⟩, h4⟩ k hd => ⟨h1, ⟨gs, G, h2.move (fun b hb hf => k.block b hb (hd b (h3 b (by rw [← h1.1.len]; exact hf)))), h3⟩, fun b hb => Nat.lt_of_lt_of_le (h4 b hb) k.size⟩
  lt := fun h hb => h.2.2 _ hb
/-- The reference's. -/
def rbufO (gx n m : Nat) (T : List (List En)) : Obj where
  At w F := TG T n m ∧ ∃ L, RefG w gx F n m L ∧ L.Perm (listT 0 T)
  keeps := fun ⟨h1, L, h2, h3⟩ k hd => ⟨h1, L, h2.keeps k hd, h3⟩
  lt := fun ⟨_, _, h2, _⟩ hb => h2.lt _ hb
/-- What a fill makes of a buffer. -/
def fillB (T : List (List En)) (va : Nat) (asid : Int) (lf : Tf) (pick : Int) : List (List En) := if levOK lf.lev then fillS T va asid lf pick else T
theorem TOk.fillB {T : List (List En)} {n m va : Nat} {asid pick : Int} {lf : Tf} (h : TOk T n m) : TOk (fillB T va asid lf pick) n m := by
  unfold Proofs.Ytecalibnnfcaeaa.fillB
  split
  · exact h.fill (by assumption)
  · exact h
theorem TG.fillB {T : List (List En)} {n m va : Nat} {asid pick : Int} {lf : Tf} (h : TG T n m) (hl : tlb_LfWf lf) (ha : (Lit.int .i64 asid).wf = true) : TG (fillB T va asid lf pick) n m := by
  refine ⟨h.1.fillB, ?_⟩
  unfold Proofs.Ytecalibnnfcaeaa.fillB
  split
  · exact h.2.fill hl ha
  · exact h.2
section
variable {W w : World} {os : List Obj} {g n m : Nat} {T : List (List En)}
theorem Objs.bufFind (h : Objs W os w) (i : Nat) (hi : os[i]? = some (bufO g n m T)) (va : Nat) (asid : Int) (hv : va < 18446744073709551616) :
    Calls Try.prog 73 #[.pointer (some ⟨g, 0, none⟩), .int .u64 va, .int .i64 asid] w fun e w' => e = .returned (.tuple #[.agg ((findS T va asid).getD tlb_lf0).cs, .bool (findS T va asid).isSome]) ∧ Objs W os w' ∧ Ext w w' := by
  obtain ⟨F, hK, ⟨gs, G, hB, _⟩, _⟩ := h.get i _ hi
  refine (tlb_find_any g gs G T m va asid w hv (by rw [hK.1.len]; exact hK.1.n0) (by rw [hK.1.len]; exact hK.1.n64) hK.1.m8 hB hK.1.val).mono ?_
  rintro e w' ⟨rfl, hb⟩
  exact ⟨rfl, h.step hb, hb⟩
theorem Objs.rbufFind (h : Objs W os w) (i : Nat) (hi : os[i]? = some (rbufO g n m T)) (va : Nat) (asid : Int) (hv : va < 18446744073709551616) :
    Calls Try.prog 46 #[.pointer (some ⟨g, 0, none⟩), .int .u64 va, .int .i64 asid] w fun e w' => e = .returned (.tuple #[.agg ((findS T va asid).getD tlb_lf0).cs, .bool (findS T va asid).isSome]) ∧ Objs W os w' ∧ Ext w w' := by
  obtain ⟨F, hK, L, hR, hP⟩ := h.get i _ hi
  refine (rfind_any g n m va asid F L T w hv hK.1 hR hP).mono ?_
  rintro e w' ⟨rfl, hb⟩
  exact ⟨rfl, h.step hb, hb⟩
theorem Objs.bufFill (h : Objs W os w) (i : Nat) (hi : os[i]? = some (bufO g n m T)) (va : Nat) (asid : Int) (lf : Tf) (pick : Int) (hv : va < 18446744073709551616) (hp : -9223372036854775808 ≤ pick ∧ pick < 9223372036854775808) (hlf : tlb_LfWf lf) (has : (Lit.int .i64 asid).wf = true) :
    Calls Try.prog 75 #[.pointer (some ⟨g, 0, none⟩), .int .u64 va, .int .i64 asid, .agg lf.cs, .int .i64 pick] w fun e w' => e = .returned (.bool (levOK lf.lev)) ∧ Objs W (os.set i (bufO g n m (fillB T va asid lf pick))) w' ∧ Below W.heap.size w w' := by
  refine h.turn (R := fun e => e = .returned (.bool (levOK lf.lev))) i (bufO g n m T) (bufO g n m (fillB T va asid lf pick)) hi (fun F hF => ?_)
  obtain ⟨hK, ⟨gs, G, hB, hG⟩, hF⟩ := hF
  have hl := hK.1.len
  have key : Calls Try.prog 75 #[.pointer (some ⟨g, 0, none⟩), .int .u64 va, .int .i64 asid, .agg lf.cs, .int .i64 pick] w (FillR g gs G (fillB T va asid lf pick) n m (levOK lf.lev) w) := by
    unfold fillB
    cases hlev : levOK lf.lev with
    | true => rw [if_pos rfl, ← hl]; exact fill_yes g gs G T m va asid lf pick w hv hp (by rw [hl]; exact hK.1.n0) (by rw [hl]; exact hK.1.n64) hK.1.m0 hK.1.m8 hB hlev
    | false => rw [if_neg (by simp), ← hl]; exact fill_no g gs G T m va asid lf pick w hB hlev
  refine key.mono ?_
  rintro e w' ⟨rfl, h2, h3⟩
  exact ⟨rfl, F, ⟨hK.fillB hlf has, ⟨gs, G, h2, hG⟩, fun b hb => Nat.lt_of_lt_of_le (hF b hb) h3.size⟩, fun b hb => .inl hb, h3.mono hG⟩
theorem Objs.rbufFill (h : Objs W os w) (i : Nat) (hi : os[i]? = some (rbufO g n m T)) (va : Nat) (asid : Int) (lf : Tf) (pick : Int) (hv : va < 18446744073709551616) (hp : -9223372036854775808 ≤ pick ∧ pick < 9223372036854775808) (hlf : tlb_LfWf lf) (has : (Lit.int .i64 asid).wf = true) :
    Calls Try.prog 48 #[.pointer (some ⟨g, 0, none⟩), .int .u64 va, .int .i64 asid, .agg lf.cs, .int .i64 pick] w fun e w' => e = .returned (.bool (levOK lf.lev)) ∧ Objs W (os.set i (rbufO g n m (fillB T va asid lf pick))) w' ∧ Below W.heap.size w w' := by
  refine h.turn (R := fun e => e = .returned (.bool (levOK lf.lev))) i (rbufO g n m T) (rbufO g n m (fillB T va asid lf pick)) hi (fun F hF => ?_)
  obtain ⟨hK, L, hR, hP⟩ := hF
  have key := hK.fillB hlf has (va := va) (asid := asid) (lf := lf) (pick := pick)
  unfold fillB at key ⊢
  cases hlev : levOK lf.lev with
  | true =>
    rw [hlev, if_pos rfl] at key
    rw [if_pos rfl]
    refine (rfill_yes g n m va asid lf pick F L T w hv hp hK.1 hR hP hlev).mono ?_
    rintro e w' ⟨rfl, L', ⟨G', k1, k2, k3⟩, k4⟩
    exact ⟨rfl, G', ⟨key, L', k1, k4⟩, k2, k3.mono fun b hb => by subst hb; exact hR.at0⟩
  | false =>
    rw [if_neg (by simp)]
    refine (rfill_no g va asid lf pick w hlev).mono ?_
    rintro e w' ⟨rfl, hb⟩
    exact ⟨rfl, F, ⟨hK, L, hR.below hb, hP⟩, fun b hb => .inl hb, Keeps.of_below hb⟩
theorem Objs.bufFence (h : Objs W os w) (i : Nat) (hi : os[i]? = some (bufO g n m T)) (vo : Option Nat) (ao : Option Int) (V A : Value) (hv : ∀ va, vo = some va → va < 18446744073709551616) (hV : OneU w vo V) (hA : OneI w ao A) :
    Calls Try.prog 35 #[.pointer (some ⟨g, 0, none⟩), V, A] w fun e w' => e = .returned (.int .i64 (fenceN T vo ao : Nat)) ∧ Objs W (os.set i (bufO g n m (fenceS T vo ao))) w' ∧ Below W.heap.size w w' := by
  refine h.turn (R := fun e => e = .returned (.int .i64 (fenceN T vo ao : Nat))) i (bufO g n m T) (bufO g n m (fenceS T vo ao)) hi (fun F hF => ?_)
  obtain ⟨hK, ⟨gs, G, hB, hG⟩, hF⟩ := hF
  have hl := hK.1.len
  refine (fence_any g gs G T m vo ao V A w hv (by rw [hl]; exact hK.1.n0) (by rw [hl]; exact hK.1.n64) hK.1.m0 hK.1.m8 hB hK.1.val hV hA).mono ?_
  rintro e w' ⟨rfl, h2, h3⟩
  rw [hl] at h3
  exact ⟨rfl, F, ⟨⟨hK.1.fence vo ao, hK.2.fence vo ao⟩, ⟨gs, G, h2, hG⟩, fun b hb => Nat.lt_of_lt_of_le (hF b hb) h3.size⟩, fun b hb => .inl hb, h3.mono hG⟩
theorem Objs.rbufFence (h : Objs W os w) (i : Nat) (hi : os[i]? = some (rbufO g n m T)) (vo : Option Nat) (ao : Option Int) (V A : Value) (hv : ∀ va, vo = some va → va < 18446744073709551616) (hV : OneU w vo V) (hA : OneI w ao A) :
    Calls Try.prog 19 #[.pointer (some ⟨g, 0, none⟩), V, A] w fun e w' => e = .returned (.int .i64 ((fenceN T vo ao : Nat) : Int)) ∧ Objs W (os.set i (rbufO g n m (fenceS T vo ao))) w' ∧ Below W.heap.size w w' := by
  refine h.turn (R := fun e => e = .returned (.int .i64 ((fenceN T vo ao : Nat) : Int))) i (rbufO g n m T) (rbufO g n m (fenceS T vo ao)) hi (fun F hF => ?_)
  obtain ⟨hK, L, hR, hP⟩ := hF
  refine (rfence_any g n m F L T vo ao V A w hv hV hA hK.1 hR hP).mono ?_
  rintro e w' ⟨rfl, G', k1, k2, k3⟩
  exact ⟨rfl, G', ⟨⟨hK.1.fence vo ao, hK.2.fence vo ao⟩, _, k1, (fence_perm hP vo ao).1⟩, k2, k3.mono fun b hb => by subst hb; exact hR.at0⟩
theorem Objs.bufList (h : Objs W os w) (i : Nat) (hi : os[i]? = some (bufO g n m T)) :
    Calls Try.prog 24 #[.pointer (some ⟨g, 0, none⟩)] w fun e w' => ∃ A c, e = .returned (.slice A (listT 0 T).length c) ∧ RdS w' (.slice A (listT 0 T).length c) (listT 0 T) ∧ Objs W os w' ∧ Ext w w' := by
  obtain ⟨F, hK, ⟨gs, G, hB, _⟩, _⟩ := h.get i _ hi
  refine (list_any g gs G T m w (by rw [hK.1.len]; exact hK.1.n64) hK.1.m8 hB).mono ?_
  rintro e w1 ⟨v, rfl, h1, h2⟩
  obtain ⟨A, c, rfl⟩ := tlb_row_form h1
  exact ⟨A, c, rfl, RdS.of_own h1, h.step h2, h2⟩
theorem Objs.rbufList (h : Objs W os w) (i : Nat) (hi : os[i]? = some (rbufO g n m T)) :
    Calls Try.prog 25 #[.pointer (some ⟨g, 0, none⟩)] w fun e w' => ∃ A c, e = .returned (.slice A (listT 0 T).length c) ∧ RdS w' (.slice A (listT 0 T).length c) (listT 0 T) ∧ Objs W os w' ∧ Ext w w' := by
  obtain ⟨F, hK, L, hR, hP⟩ := h.get i _ hi
  refine (rlist_any g n m F L T w hK.1 hR hP).mono ?_
  rintro e w1 ⟨v, rfl, h1, h2⟩
  obtain ⟨A, c, rfl⟩ := tlb_row_form h1
  exact ⟨A, c, rfl, RdS.of_own h1, h.step h2, h2⟩
theorem Objs.bufLen (h : Objs W os w) (i : Nat) (hi : os[i]? = some (bufO g n m T)) :
    Calls Try.prog 26 #[.pointer (some ⟨g, 0, none⟩)] w fun e w' => e = .returned (.int .i64 ((listT 0 T).length : Nat)) ∧ Objs W os w' ∧ Ext w w' := by
  obtain ⟨F, hK, ⟨gs, G, hB, _⟩, _⟩ := h.get i _ hi
  refine (len_any g gs G T m w (by rw [hK.1.len]; exact hK.1.n64) hK.1.m8 hB).mono ?_
  rintro e w1 ⟨h1, h2⟩
  exact ⟨h1, h.step h2, h2⟩
theorem Objs.bufTG (h : Objs W os w) (i : Nat) (hi : os[i]? = some (bufO g n m T)) : TG T n m := by
  obtain ⟨F, hK, _⟩ := h.get i _ hi
  exact hK
end
end Go.Proofs.Ytecalibnnfcaeaa

/- What a unit answers, in plain Lean. -/
namespace Go.Proofs.Ytecalibnnfcaeaa
open Go.RowKit

/-- What is found through the tables, as a leaf of the buffer. -/
def fdT : Fd → Tf
  | .err _ => tlb_lf0
  | .leaf x l a => ⟨bitB x 0, bitB x 1, bitB x 2, bitB x 3, bitB x 4, bitB x 5, bitB x 6, bitB x 7, (x : Int) / 256 % 4, x / 1024 % 17592186044416, (l : Int), a⟩
theorem fdT_val (f : Fd) : (fdT f).val = fdV f := by
  cases f with
  | err e => rfl
  | leaf x l a =>
    show Value.agg _ = Value.agg _
    simp [fdT]
/-- What a unit holds beside its memory and its buffer. -/
structure Un where
  (on : Bool)
  (asid : Int)
  (ppn : Nat)
  (user sum mxr : Bool)
def Un.cs (u : Un) (m b : Nat) : Array Value := #[.pointer (some ⟨m, 0, none⟩), .pointer (some ⟨b, 0, none⟩), .bool u.on, .int .i64 u.asid, .int .u64 (u.ppn : Int), .bool u.user, .bool u.sum, .bool u.mxr]
/-- The leaf of an address, its cause (-1: none), what the buffer has then. -/
def leafM (n : Nat) (S : Nat → List Nat) (T : List (List En)) (u : Un) (va : Nat) (a pick : Int) : Tf × Int × List (List En) :=
  match findS T va u.asid with
  | some lf => (lf, -1, T)
  | none =>
    if fdE (findW n S u.on u.ppn va) = 0 then (fdT (findW n S u.on u.ppn va), -1, fillB T va u.asid (fdT (findW n S u.on u.ppn va)) pick)
    else (fdT (findW n S u.on u.ppn va), if fdE (findW n S u.on u.ppn va) = 61 then causeV a 1 5 7 else causeV a 12 13 15, T)
/-- The place of an access in memory, its cause, what the buffer has then. -/
def placeM (n : Nat) (S : Nat → List Nat) (T : List (List En)) (u : Un) (va : Nat) (size a pick : Int) : Nat × Int × List (List En) :=
  if alignedB va size then
    if (leafM n S T u va a pick).2.1 = -1 then
      if checkB (leafM n S T u va a pick).1.v (leafM n S T u va a pick).1.r (leafM n S T u va a pick).1.w (leafM n S T u va a pick).1.x (leafM n S T u va a pick).1.u (leafM n S T u va a pick).1.a (leafM n S T u va a pick).1.d a u.user u.sum u.mxr then
        if joinV (leafM n S T u va a pick).1.ppn va (leafM n S T u va a pick).1.lev / 4096 < n then (joinV (leafM n S T u va a pick).1.ppn va (leafM n S T u va a pick).1.lev, -1, (leafM n S T u va a pick).2.2)
        else (0, causeV a 1 5 7, (leafM n S T u va a pick).2.2)
      else (0, causeV a 12 13 15, (leafM n S T u va a pick).2.2)
    else (0, (leafM n S T u va a pick).2.1, (leafM n S T u va a pick).2.2)
  else (0, causeV a 0 4 6, T)
theorem TOk.leafM {T : List (List En)} {k m n va : Nat} {S : Nat → List Nat} {u : Un} {a pick : Int} (h : TOk T k m) : TOk (leafM n S T u va a pick).2.2 k m := by
  unfold Proofs.Ytecalibnnfcaeaa.leafM
  split
  · exact h
  · split
    · exact h.fillB
    · exact h
theorem TOk.placeM {T : List (List En)} {k m n va : Nat} {S : Nat → List Nat} {u : Un} {size a pick : Int} (h : TOk T k m) : TOk (placeM n S T u va size a pick).2.2 k m := by
  unfold Proofs.Ytecalibnnfcaeaa.placeM
  split
  · split
    · split
      · split <;> exact h.leafM
      · exact h.leafM
    · exact h.leafM
  · exact h
/-- A place that is joined is aligned as the address is. -/
theorem joinV_al (ppn va : Nat) (lev s : Int) (h : alignedB va s = true) : alignedB (joinV ppn va lev) s = true := by
  unfold alignedB at h ⊢
  rw [Bool.and_eq_true] at h
  obtain ⟨hs, h⟩ := h
  rw [hs, Bool.true_and]
  have h : va % s.toNat = 0 := by simpa using h
  suffices joinV ppn va lev % s.toNat = 0 by simp [this]
  unfold joinV
  cases hl : levelB lev with
  | false => simp
  | true =>
    rw [if_pos rfl]
    generalize ppn * 4096 % 18446744073709551616 = p
    rcases level_cases hl with rfl | rfl | rfl
    · rw [show spanV 0 = 4096 by decide]
      rcases size_cases hs with rfl | rfl | rfl | rfl <;> simp only [Int.reduceToNat] at h ⊢ <;> omega
    · rw [show spanV 1 = 2097152 by decide]
      rcases size_cases hs with rfl | rfl | rfl | rfl <;> simp only [Int.reduceToNat] at h ⊢ <;> omega
    · rw [show spanV 2 = 1073741824 by decide]
      rcases size_cases hs with rfl | rfl | rfl | rfl <;> simp only [Int.reduceToNat] at h ⊢ <;> omega
theorem chk_al {n at_ : Nat} {s : Int} (h : alignedB at_ s = true) : chkE n at_ s = if at_ / 4096 < n then 0 else 61 := by
  have hs : sizeB s = true := by unfold alignedB at h; rw [Bool.and_eq_true] at h; exact h.1
  unfold chkE
  rw [if_neg (by rw [hs]; decide), if_neg (by rw [h]; decide)]
  by_cases hx : at_ / 4096 < n
  · rw [if_pos hx, if_neg (by omega)]
  · rw [if_neg hx, if_pos (by omega)]
end Go.Proofs.Ytecalibnnfcaeaa
