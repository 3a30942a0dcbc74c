/- Merged texts: TlbS. -/
import Derived.Test.YtecalibnnfcaeaaMm12
/- The reference's Fence. -/
namespace Go.Proofs.Ytecalibnnfcaeaa
open Go.RowKit

def stayP (vo : Option Nat) (ao : Option Int) (L : List Sl) : List Sl := L.filter (fun x => !goesL vo ao x)
theorem stay_skip {L : List Sl} {k : Nat} {x : Sl} {vo : Option Nat} {ao : Option Int} (h : L[k]? = some x) (hx : goesL vo ao x = true) : stayP vo ao (L.take (k + 1)) = stayP vo ao (L.take k) := by
  unfold stayP
  rw [List.take_add_one, h, List.filter_append]
  simp [hx]
theorem stay_step {L : List Sl} {k : Nat} {x : Sl} {vo : Option Nat} {ao : Option Int} (h : L[k]? = some x) (hx : goesL vo ao x = false) : stayP vo ao (L.take (k + 1)) = stayP vo ao (L.take k) ++ [x] := by
  unfold stayP
  rw [List.take_add_one, h, List.filter_append]
  simp [hx]
theorem stay_length (vo : Option Nat) (ao : Option Int) (L : List Sl) : (stayP vo ao L).length ≤ L.length := List.length_filter_le _ _
theorem goesL_eq (vo : Option Nat) (ao : Option Int) (y : Sl) : goesL vo ao y = ((match vo with | none => true | some va => y.page == pgN va y.lf.lev) && (match ao with | none => true | some a => y.asid == a && !y.lf.g)) := by
  cases vo <;> cases ao <;> simp [goesL, goesB, vaOK, asOK, hasB]
theorem sown_below {w w' : World} {base n s : Nat} {t : TypeId} {v : Value} {xs : List Value} (h : w.ownsRow base t s v n xs) (hb : Below w.heap.size w w') : w'.ownsRow base t s v n xs := (Keeps.of_below hb).row h (fun _ _ h => h)
theorem pg_eq {a b : Nat} (h : ((a : Int) != (b : Int)) = false) : (b == a) = true := by
  have h' : (a : Int) = (b : Int) := by simpa using h
  have : a = b := by omega
  simp [this]
theorem pg_ne {a b : Nat} (h : ((a : Int) != (b : Int)) = true) : (b == a) = false := by
  have h' : ¬ ((a : Int) = (b : Int)) := by simpa using h
  simp; omega
theorem slot_lev {L : List Sl} {T : List (List En)} {n m k : Nat} {y : Sl} (hK : TOk T n m) (hP : L.Perm (listT 0 T)) (hy : L[k]? = some y) : levOK y.lf.lev = true := by
  obtain ⟨s, j, h1, h2, h3⟩ := mem_listT (hP.mem_iff.1 (List.mem_of_getElem? hy))
  cases hT : (T.getD s [])[j]? with
  | none => rw [hT] at h3; simp at h3
  | some e =>
    rw [hT] at h3
    obtain ⟨_, _, hf, hx⟩ := ent_key (e := e) (by simpa using h3)
    have hs : s < n := by
      rcases Nat.lt_or_ge s n with h | h
      · exact h
      · have e0 : T[s]? = none := List.getElem?_eq_none (by rw [hK.len]; exact h)
        rw [List.getD_eq_getElem?_getD, e0] at hT
        simp at hT
    rw [hx]
    exact hK.lev hs hT hf
set_option maxRecDepth 20000 in
set_option maxHeartbeats 4000000 in
theorem rfence_NN (gx n m : Nat) (G : Nat → Prop) (L : List Sl) (T : List (List En)) (W : World) (hK : TOk T n m) (hR : RefG W gx G n m L) (hP : L.Perm (listT 0 T)) :
    Calls Try.prog 19 #[.pointer (some ⟨gx, 0, none⟩), .slice none 0 0, .slice none 0 0] W fun e w' => e = .returned (.int .i64 ((fenceN T none none : Nat) : Int)) ∧ PutG W gx G n m (stayP none none L) w' := by
  have HF := Lib.hid (fence_perm hP none none).2
  have HK := Lib.hid hK
  have HP := Lib.hid hP
  have HNL : Hid (L.length ≤ 512) := Lib.hid (hK.slots hP)
  obtain ⟨A, c, hb, hr, hG, _, hGl⟩ := hR
  obtain ⟨i0, hi0, hz0, hz1, hz2⟩ := info_parts info_sl
  have HX := Lib.hid hb
  have HG := Lib.hid hG
  have HGL := Lib.hid hGl
  have HXL := Lib.hid hb.lt
  have HRW := Lib.hid hr
  have c2 := hb.cell 2
  simp only [List.getElem?_toArray, List.getElem?_cons_zero, List.getElem?_cons_succ] at c2
  obtain ⟨l, hn⟩ : ∃ l, l = L.length := ⟨_, rfl⟩
  have HN := Lib.hid hn
  rw [← hn] at c2 HNL HF
  clear hb hr hG hGl hn hK hP
  go_enter Try.func19, Try.ntmps19
  go_wp2_with fail
  go_loopw [7, 17] (fun v i wr => ∃ k : Nat, k ≤ l ∧ i = .int .i64 k ∧ wr.ownsRow W.heap.size 99 16 v (stayP none none (L.take k)).length (slC (stayP none none (L.take k))) ∧ Below W.heap.size W wr) (fun _ i _ => l - (intOf i).toNat)
  case atStart => exact ⟨0, by omega, rfl, World.ownsRow_nil _ _ _ _, Below.refl _ _⟩
  clear c2
  case round =>
    obtain ⟨k, hk, rfl, ho, hbel⟩ := hrel
    obtain ⟨Av, cv, hv⟩ := tlb_row_form ho
    subst hv
    have HO := Lib.hid ho
    have HB := Lib.hid hbel
    have hsz := hbel.size
    have HLN : Hid ((stayP none none (L.take k)).length ≤ l) := Lib.hid (Nat.le_trans (stay_length _ _ _) (by rw [List.length_take, HN.out]; exact Nat.min_le_right _ _))
    have hnb := HNL.out
    clear ho
    by_cases hkl : k < l
    · obtain ⟨y, hy⟩ : ∃ y, L[k]? = some y := ⟨_, List.getElem?_eq_getElem (by rw [← HN.out]; exact hkl)⟩
      obtain ⟨b, e, hrg⟩ := HRW.out.range (fun e => by rw [e] at hy; simp at hy)
      obtain rfl : A = some ⟨b, 0, none⟩ := by injection e
      clear e
      have HRG : Hid (wr.rangeAt b (k * 16) #[.int .i64 y.set, .int .i64 y.way, .int .i64 y.asid, .int .u64 y.page, .bool y.lf.v, .bool y.lf.r, .bool y.lf.w, .bool y.lf.x, .bool y.lf.u, .bool y.lf.g, .bool y.lf.a, .bool y.lf.d, .int .i64 y.lf.rsw, .int .u64 y.lf.ppn, .int .i64 y.lf.lev, .int .u64 y.lf.pos].toList) := Lib.hid (range_below (hrg k y hy) hbel)
      have HLV := Lib.hid (slot_lev HK.out HP.out hy)
      have HY := Lib.hid hy
      have hal := (Below.refl wr.heap.size wr).alloc (Nat.le_refl _) (.cells #[.int .i64 y.set, .int .i64 y.way, .int .i64 y.asid, .int .u64 y.page, .bool y.lf.v, .bool y.lf.r, .bool y.lf.w, .bool y.lf.x, .bool y.lf.u, .bool y.lf.g, .bool y.lf.a, .bool y.lf.d, .int .i64 y.lf.rsw, .int .u64 y.lf.ppn, .int .i64 y.lf.lev, .int .u64 y.lf.pos] 99)
      have HYA := Lib.hid (Blkf.new_at wr 99 (0, 0) #[.int .i64 y.set, .int .i64 y.way, .int .i64 y.asid, .int .u64 y.page, .bool y.lf.v, .bool y.lf.r, .bool y.lf.w, .bool y.lf.x, .bool y.lf.u, .bool y.lf.g, .bool y.lf.a, .bool y.lf.d, .int .i64 y.lf.rsw, .int .u64 y.lf.ppn, .int .i64 y.lf.lev, .int .u64 y.lf.pos] rfl)
      have HOA := Lib.hid (HO.out.alloc (.cells #[.int .i64 y.set, .int .i64 y.way, .int .i64 y.asid, .int .u64 y.page, .bool y.lf.v, .bool y.lf.r, .bool y.lf.w, .bool y.lf.x, .bool y.lf.u, .bool y.lf.g, .bool y.lf.a, .bool y.lf.d, .int .i64 y.lf.rsw, .int .u64 y.lf.ppn, .int .i64 y.lf.lev, .int .u64 y.lf.pos] 99))
      have HBA := Lib.hid (HB.out.alloc hsz (.cells #[.int .i64 y.set, .int .i64 y.way, .int .i64 y.asid, .int .u64 y.page, .bool y.lf.v, .bool y.lf.r, .bool y.lf.w, .bool y.lf.x, .bool y.lf.u, .bool y.lf.g, .bool y.lf.a, .bool y.lf.d, .int .i64 y.lf.rsw, .int .u64 y.lf.ppn, .int .i64 y.lf.lev, .int .u64 y.lf.pos] 99))
      clear hrg hy hal
      go_wp2_with (first | ((with_reducible refine wl_load 99 (.tmp 19) rfl ?_ b (k * 16) #[.int .i64 y.set, .int .i64 y.way, .int .i64 y.asid, .int .u64 y.page, .bool y.lf.v, .bool y.lf.r, .bool y.lf.w, .bool y.lf.x, .bool y.lf.u, .bool y.lf.g, .bool y.lf.a, .bool y.lf.d, .int .i64 y.lf.rsw, .int .u64 y.lf.ppn, .int .i64 y.lf.lev, .int .u64 y.lf.pos] ?_ HRG.out ?_ ?_); exact rfl; exact rfl; exact ex_row) | ((with_reducible refine wl_store_new 99 (.tmp 9) (.tmp 20) rfl ?_ wr (World.heap wr).size 99 #[.int .i64 0, .int .i64 0, .int .i64 0, .int .u64 0, .bool false, .bool false, .bool false, .bool false, .bool false, .bool false, .bool false, .bool false, .int .i64 0, .int .u64 0, .int .i64 0, .int .u64 0] #[.int .i64 y.set, .int .i64 y.way, .int .i64 y.asid, .int .u64 y.page, .bool y.lf.v, .bool y.lf.r, .bool y.lf.w, .bool y.lf.x, .bool y.lf.u, .bool y.lf.g, .bool y.lf.a, .bool y.lf.d, .int .i64 y.lf.rsw, .int .u64 y.lf.ppn, .int .i64 y.lf.lev, .int .u64 y.lf.pos] ?_ ?_ ?_ ?_ ?_ ?_ ?_ ?_); exact rfl; exact rfl; exact rfl; exact rfl; exact rfl; exact rfl; exact ex_row; exact ex_one y))
      obtain ⟨sb, hsb⟩ : ∃ sb, sb = wr.heap.size := ⟨_, rfl⟩
      rw [← hsb] at HYA ⊢
      clear hsb
      generalize wr.alloc (.cells #[.int .i64 y.set, .int .i64 y.way, .int .i64 y.asid, .int .u64 y.page, .bool y.lf.v, .bool y.lf.r, .bool y.lf.w, .bool y.lf.x, .bool y.lf.u, .bool y.lf.g, .bool y.lf.a, .bool y.lf.d, .int .i64 y.lf.rsw, .int .u64 y.lf.ppn, .int .i64 y.lf.lev, .int .u64 y.lf.pos] 99) = wa at *
      refine wp_region_plan [(0, false), (1, false), (2, false), (3, false), (4, false), (5, false), (6, false), (7, false), (8, false), (9, false), (11, false), (12, false), (10, false), (13, false), (14, false), (15, false)] (by kernel_rfl) (by kernel_rfl) (fun _ d _ _ _ h => by cases d <;> exact h) ?_
      iterate 4 (refine plan_take (v := ?_) rfl (by kernel_rfl) ?_ ?_; rotate_left; (focus (intro w' hw'; try go_simp; try with_reducible rfl)); simp only [Act.put, List.setIfInBounds_toArray, List.set_cons_zero, List.set_cons_succ])
      iterate 10 (refine plan_skip rfl (by kernel_rfl) ?_; simp only [Act.put, List.setIfInBounds_toArray, List.set_cons_zero, List.set_cons_succ])
      iterate 2 (refine plan_take (v := ?_) rfl (by kernel_rfl) ?_ ?_; rotate_left; (focus (intro w' hw'; try go_simp; try with_reducible rfl)); simp only [Act.put, List.setIfInBounds_toArray, List.set_cons_zero, List.set_cons_succ])
      refine plan_end ?_
      have HO6 := Lib.hid (sown_below HOA.out (Below.refl _ _).drew)
      have HB6 := Lib.hid HBA.out.drew
      have HY6 := Lib.hid HYA.out.drew
      clear HOA HBA HYA
      generalize wa.drew = w6 at *
      have HKP : Hid (stayP none none (L.take (k + 1)) = stayP none none (L.take k)) := Lib.hid (stay_skip HY.out (by rw [goesL_eq]; skip; rfl))
      obtain ⟨N, hN⟩ : ∃ N, stayP none none (L.take k) = N := ⟨_, rfl⟩
      rw [hN] at HKP HO6 HLN ⊢
      clear hN
      go_wp2_with fail
      refine wp_region_plan [(0, false), (1, false), (2, false), (3, false), (4, false), (5, false), (6, false), (7, false), (8, false), (9, false), (10, false), (11, false), (12, false), (13, false), (14, false), (15, false), (16, false), (17, false), (18, false), (19, false), (20, false)] (by kernel_rfl) (by kernel_rfl) (fun _ d _ _ _ h => by cases d <;> exact h) ?_
      iterate 6 (refine plan_take (v := ?_) rfl (by kernel_rfl) ?_ ?_; rotate_left; (focus (intro w' hw'; try go_simp; try with_reducible rfl)); simp only [Act.put, List.setIfInBounds_toArray, List.set_cons_zero, List.set_cons_succ])
      iterate 12 (refine plan_skip rfl (by kernel_rfl) ?_; simp only [Act.put, List.setIfInBounds_toArray, List.set_cons_zero, List.set_cons_succ])
      iterate 3 (refine plan_take (v := ?_) rfl (by kernel_rfl) ?_ ?_; rotate_left; (focus (intro w' hw'; try go_simp; try with_reducible rfl)); simp only [Act.put, List.setIfInBounds_toArray, List.set_cons_zero, List.set_cons_succ])
      refine plan_end ?_
      have HO7 := Lib.hid (sown_below HO6.out (Below.refl _ _).drew)
      have HB7 := Lib.hid HB6.out.drew
      have HY7 := Lib.hid HY6.out.drew
      generalize w6.drew = w7 at *
      go_wp2_with fail
      go_roundw
      case rel => exact ⟨k + 1, hkl, by go_num, by rw [HKP.out]; exact HO7.out, HB7.out⟩
      case measure => simp [intOf]; omega
    · obtain rfl : l = k := by omega
      have HKP : Hid (stayP none none (L.take l) = stayP none none L) := Lib.hid (by rw [List.take_of_length_le (by rw [HN.out]; exact Nat.le_refl _)])
      rw [HKP.out] at HO HLN ⊢
      clear HKP
      obtain ⟨N, hNE⟩ : ∃ N, stayP none none L = N := ⟨_, rfl⟩
      have hsub := HF.out
      rw [show L.filter (fun x => !goesL none none x) = N from hNE] at hsub
      rw [hNE] at HO HLN ⊢
      have HNE := Lib.hid hNE
      clear hNE
      have hx2 := HX.out.below HB.out HXL.out
      have hc2 : wr.cell? ⟨gx, 2, none⟩ = some (.slice A l c) := by rw [HN.out]; exact hx2.cell 2
      have hl2 := hx2.lt
      have hf2 := Blk.frozen hx2 2
      have hln := HLN.out
      clear hx2 hbel
      go_wp2_with fail
      go_ret
      rw [HNE.out]
      exact ⟨rfl, putg_fin HB.out (Nat.le_refl _) HX.out HG.out HGL.out HO.out⟩
set_option maxRecDepth 20000 in
set_option maxHeartbeats 4000000 in
theorem rfence_NS (gx n m : Nat) (G : Nat → Prop) (L : List Sl) (T : List (List En)) (W : World) (ga : Nat) (a : Int) (hca : W.cell? ⟨ga, 0, none⟩ = some (.int .i64 a)) (hK : TOk T n m) (hR : RefG W gx G n m L) (hP : L.Perm (listT 0 T)) :
    Calls Try.prog 19 #[.pointer (some ⟨gx, 0, none⟩), .slice none 0 0, .slice (some ⟨ga, 0, none⟩) 1 1] W fun e w' => e = .returned (.int .i64 ((fenceN T none (some a) : Nat) : Int)) ∧ PutG W gx G n m (stayP none (some a) L) w' := by
  have HF := Lib.hid (fence_perm hP none (some a)).2
  have HK := Lib.hid hK
  have HP := Lib.hid hP
  have HNL : Hid (L.length ≤ 512) := Lib.hid (hK.slots hP)
  obtain ⟨A, c, hb, hr, hG, _, hGl⟩ := hR
  obtain ⟨i0, hi0, hz0, hz1, hz2⟩ := info_parts info_sl
  have HX := Lib.hid hb
  have HG := Lib.hid hG
  have HGL := Lib.hid hGl
  have HXL := Lib.hid hb.lt
  have HRW := Lib.hid hr
  have c2 := hb.cell 2
  simp only [List.getElem?_toArray, List.getElem?_cons_zero, List.getElem?_cons_succ] at c2
  obtain ⟨l, hn⟩ : ∃ l, l = L.length := ⟨_, rfl⟩
  have HN := Lib.hid hn
  rw [← hn] at c2 HNL HF
  have HCA := Lib.hid hca
  clear hca
  clear hb hr hG hGl hn hK hP
  go_enter Try.func19, Try.ntmps19
  go_wp2_with fail
  go_loopw [7, 17] (fun v i wr => ∃ k : Nat, k ≤ l ∧ i = .int .i64 k ∧ wr.ownsRow W.heap.size 99 16 v (stayP none (some a) (L.take k)).length (slC (stayP none (some a) (L.take k))) ∧ Below W.heap.size W wr) (fun _ i _ => l - (intOf i).toNat)
  case atStart => exact ⟨0, by omega, rfl, World.ownsRow_nil _ _ _ _, Below.refl _ _⟩
  clear c2
  case round =>
    obtain ⟨k, hk, rfl, ho, hbel⟩ := hrel
    obtain ⟨Av, cv, hv⟩ := tlb_row_form ho
    subst hv
    have HO := Lib.hid ho
    have HB := Lib.hid hbel
    have hsz := hbel.size
    have HLN : Hid ((stayP none (some a) (L.take k)).length ≤ l) := Lib.hid (Nat.le_trans (stay_length _ _ _) (by rw [List.length_take, HN.out]; exact Nat.min_le_right _ _))
    have hnb := HNL.out
    clear ho
    by_cases hkl : k < l
    · obtain ⟨y, hy⟩ : ∃ y, L[k]? = some y := ⟨_, List.getElem?_eq_getElem (by rw [← HN.out]; exact hkl)⟩
      obtain ⟨b, e, hrg⟩ := HRW.out.range (fun e => by rw [e] at hy; simp at hy)
      obtain rfl : A = some ⟨b, 0, none⟩ := by injection e
      clear e
      have HRG : Hid (wr.rangeAt b (k * 16) #[.int .i64 y.set, .int .i64 y.way, .int .i64 y.asid, .int .u64 y.page, .bool y.lf.v, .bool y.lf.r, .bool y.lf.w, .bool y.lf.x, .bool y.lf.u, .bool y.lf.g, .bool y.lf.a, .bool y.lf.d, .int .i64 y.lf.rsw, .int .u64 y.lf.ppn, .int .i64 y.lf.lev, .int .u64 y.lf.pos].toList) := Lib.hid (range_below (hrg k y hy) hbel)
      have HLV := Lib.hid (slot_lev HK.out HP.out hy)
      have HY := Lib.hid hy
      have hal := (Below.refl wr.heap.size wr).alloc (Nat.le_refl _) (.cells #[.int .i64 y.set, .int .i64 y.way, .int .i64 y.asid, .int .u64 y.page, .bool y.lf.v, .bool y.lf.r, .bool y.lf.w, .bool y.lf.x, .bool y.lf.u, .bool y.lf.g, .bool y.lf.a, .bool y.lf.d, .int .i64 y.lf.rsw, .int .u64 y.lf.ppn, .int .i64 y.lf.lev, .int .u64 y.lf.pos] 99)
      have HYA := Lib.hid (Blkf.new_at wr 99 (0, 0) #[.int .i64 y.set, .int .i64 y.way, .int .i64 y.asid, .int .u64 y.page, .bool y.lf.v, .bool y.lf.r, .bool y.lf.w, .bool y.lf.x, .bool y.lf.u, .bool y.lf.g, .bool y.lf.a, .bool y.lf.d, .int .i64 y.lf.rsw, .int .u64 y.lf.ppn, .int .i64 y.lf.lev, .int .u64 y.lf.pos] rfl)
      have HOA := Lib.hid (HO.out.alloc (.cells #[.int .i64 y.set, .int .i64 y.way, .int .i64 y.asid, .int .u64 y.page, .bool y.lf.v, .bool y.lf.r, .bool y.lf.w, .bool y.lf.x, .bool y.lf.u, .bool y.lf.g, .bool y.lf.a, .bool y.lf.d, .int .i64 y.lf.rsw, .int .u64 y.lf.ppn, .int .i64 y.lf.lev, .int .u64 y.lf.pos] 99))
      have HBA := Lib.hid (HB.out.alloc hsz (.cells #[.int .i64 y.set, .int .i64 y.way, .int .i64 y.asid, .int .u64 y.page, .bool y.lf.v, .bool y.lf.r, .bool y.lf.w, .bool y.lf.x, .bool y.lf.u, .bool y.lf.g, .bool y.lf.a, .bool y.lf.d, .int .i64 y.lf.rsw, .int .u64 y.lf.ppn, .int .i64 y.lf.lev, .int .u64 y.lf.pos] 99))
      clear hrg hy hal
      go_wp2_with (first | ((with_reducible refine wl_load 99 (.tmp 19) rfl ?_ b (k * 16) #[.int .i64 y.set, .int .i64 y.way, .int .i64 y.asid, .int .u64 y.page, .bool y.lf.v, .bool y.lf.r, .bool y.lf.w, .bool y.lf.x, .bool y.lf.u, .bool y.lf.g, .bool y.lf.a, .bool y.lf.d, .int .i64 y.lf.rsw, .int .u64 y.lf.ppn, .int .i64 y.lf.lev, .int .u64 y.lf.pos] ?_ HRG.out ?_ ?_); exact rfl; exact rfl; exact ex_row) | ((with_reducible refine wl_store_new 99 (.tmp 9) (.tmp 20) rfl ?_ wr (World.heap wr).size 99 #[.int .i64 0, .int .i64 0, .int .i64 0, .int .u64 0, .bool false, .bool false, .bool false, .bool false, .bool false, .bool false, .bool false, .bool false, .int .i64 0, .int .u64 0, .int .i64 0, .int .u64 0] #[.int .i64 y.set, .int .i64 y.way, .int .i64 y.asid, .int .u64 y.page, .bool y.lf.v, .bool y.lf.r, .bool y.lf.w, .bool y.lf.x, .bool y.lf.u, .bool y.lf.g, .bool y.lf.a, .bool y.lf.d, .int .i64 y.lf.rsw, .int .u64 y.lf.ppn, .int .i64 y.lf.lev, .int .u64 y.lf.pos] ?_ ?_ ?_ ?_ ?_ ?_ ?_ ?_); exact rfl; exact rfl; exact rfl; exact rfl; exact rfl; exact rfl; exact ex_row; exact ex_one y))
      obtain ⟨sb, hsb⟩ : ∃ sb, sb = wr.heap.size := ⟨_, rfl⟩
      rw [← hsb] at HYA ⊢
      clear hsb
      generalize wr.alloc (.cells #[.int .i64 y.set, .int .i64 y.way, .int .i64 y.asid, .int .u64 y.page, .bool y.lf.v, .bool y.lf.r, .bool y.lf.w, .bool y.lf.x, .bool y.lf.u, .bool y.lf.g, .bool y.lf.a, .bool y.lf.d, .int .i64 y.lf.rsw, .int .u64 y.lf.ppn, .int .i64 y.lf.lev, .int .u64 y.lf.pos] 99) = wa at *
      have HAA : Hid (wa.cell? ⟨ga, 0, none⟩ = some (.int .i64 a)) := Lib.hid ((HBA.out.cell (p := ⟨ga, 0, none⟩) (cell_lt HCA.out)).trans HCA.out)
      refine wp_region_plan [(0, false), (1, false), (2, false), (3, false), (4, false), (5, false), (6, false), (7, false), (8, false), (9, false), (11, false), (12, false), (10, false), (13, false), (14, false), (15, false)] (by kernel_rfl) (by kernel_rfl) (fun _ d _ _ _ h => by cases d <;> exact h) ?_
      iterate 4 (refine plan_take (v := ?_) rfl (by kernel_rfl) ?_ ?_; rotate_left; (focus (intro w' hw'; try go_simp; try with_reducible rfl)); simp only [Act.put, List.setIfInBounds_toArray, List.set_cons_zero, List.set_cons_succ])
      iterate 10 (refine plan_skip rfl (by kernel_rfl) ?_; simp only [Act.put, List.setIfInBounds_toArray, List.set_cons_zero, List.set_cons_succ])
      iterate 2 (refine plan_take (v := ?_) rfl (by kernel_rfl) ?_ ?_; rotate_left; (focus (intro w' hw'; try go_simp; try with_reducible rfl)); simp only [Act.put, List.setIfInBounds_toArray, List.set_cons_zero, List.set_cons_succ])
      refine plan_end ?_
      have HO6 := Lib.hid (sown_below HOA.out (Below.refl _ _).drew)
      have HB6 := Lib.hid HBA.out.drew
      have HY6 := Lib.hid HYA.out.drew
      have HA6 : Hid (wa.drew.cell? ⟨ga, 0, none⟩ = some (.int .i64 a)) := Lib.hid HAA.out
      clear HOA HBA HYA
      generalize wa.drew = w6 at *
      cases h3 : (y.asid != a)
      · have e3 : (y.asid == a) = true := by simpa using h3
        cases h4 : y.lf.g
        · have HKP : Hid (stayP none (some a) (L.take (k + 1)) = stayP none (some a) (L.take k)) := Lib.hid (stay_skip HY.out (by rw [goesL_eq]; skip; simp only [e3, h4]; rfl))
          obtain ⟨N, hN⟩ : ∃ N, stayP none (some a) (L.take k) = N := ⟨_, rfl⟩
          rw [hN] at HKP HO6 HLN ⊢
          clear hN
          clear e3
          go_wp2_with fail
          have hva_ : ∀ W', Ext w6.drew W' → W'.cell? ⟨ga, 0, none⟩ = some (.int .i64 a) := fun W' h => (h.cell (cell_lt (HA6.out))).trans HA6.out
          have hv_asid : ∀ W', Ext w6.drew W' → W'.cell? ⟨sb, 2, none⟩ = some (.int .i64 y.asid) := fun W' h => (h.cell HY6.out.drew.lt).trans (HY6.out.drew.cell 2)
          have hv_g : ∀ W', Ext w6.drew W' → W'.cell? ⟨sb, 9, none⟩ = some (.bool false) := fun W' h => by rw [← h4]; exact (h.cell HY6.out.drew.lt).trans (HY6.out.drew.cell 9)
          refine wp_region_plan [(0, false), (1, false), (2, false), (3, false), (4, false), (5, false), (6, false), (7, false), (8, false), (9, false), (10, false), (11, false), (12, false), (13, false), (14, false), (15, false), (16, false), (17, false), (18, false), (19, false), (20, false)] (by kernel_rfl) (by kernel_rfl) (fun _ d _ _ _ h => by cases d <;> exact h) ?_
          iterate 21 (refine plan_take (v := ?_) rfl (by kernel_rfl) ?_ ?_; rotate_left; (focus (intro w' hw'; try go_simp; try with_reducible rfl)); simp only [Act.put, List.setIfInBounds_toArray, List.set_cons_zero, List.set_cons_succ])
          refine plan_end ?_
          clear hva_ hv_asid hv_g h3 h4
          have HO7 := Lib.hid (sown_below HO6.out (Below.refl _ _).drew)
          have HB7 := Lib.hid HB6.out.drew
          have HY7 := Lib.hid HY6.out.drew
          generalize w6.drew = w7 at *
          go_wp2_with fail
          go_roundw
          case rel => exact ⟨k + 1, hkl, by go_num, by rw [HKP.out]; exact HO7.out, HB7.out⟩
          case measure => simp [intOf]; omega
        · have HKP : Hid (stayP none (some a) (L.take (k + 1)) = stayP none (some a) (L.take k) ++ [y]) := Lib.hid (stay_step HY.out (by rw [goesL_eq]; skip; simp only [e3, h4]; rfl))
          obtain ⟨N, hN⟩ : ∃ N, stayP none (some a) (L.take k) = N := ⟨_, rfl⟩
          rw [hN] at HKP HO6 HLN ⊢
          clear hN
          clear e3
          go_wp2_with fail
          have hva_ : ∀ W', Ext w6.drew W' → W'.cell? ⟨ga, 0, none⟩ = some (.int .i64 a) := fun W' h => (h.cell (cell_lt (HA6.out))).trans HA6.out
          have hv_asid : ∀ W', Ext w6.drew W' → W'.cell? ⟨sb, 2, none⟩ = some (.int .i64 y.asid) := fun W' h => (h.cell HY6.out.drew.lt).trans (HY6.out.drew.cell 2)
          have hv_g : ∀ W', Ext w6.drew W' → W'.cell? ⟨sb, 9, none⟩ = some (.bool true) := fun W' h => by rw [← h4]; exact (h.cell HY6.out.drew.lt).trans (HY6.out.drew.cell 9)
          refine wp_region_plan [(0, false), (1, false), (2, false), (3, false), (4, false), (5, false), (6, false), (7, false), (8, false), (9, false), (10, false), (11, false), (12, false), (13, false), (14, false), (15, false), (16, false), (17, false), (18, false), (19, false), (20, false)] (by kernel_rfl) (by kernel_rfl) (fun _ d _ _ _ h => by cases d <;> exact h) ?_
          iterate 21 (refine plan_take (v := ?_) rfl (by kernel_rfl) ?_ ?_; rotate_left; (focus (intro w' hw'; try go_simp; try with_reducible rfl)); simp only [Act.put, List.setIfInBounds_toArray, List.set_cons_zero, List.set_cons_succ])
          refine plan_end ?_
          clear hva_ hv_asid hv_g h3 h4
          have HO7 := Lib.hid (sown_below HO6.out (Below.refl _ _).drew)
          have HB7 := Lib.hid HB6.out.drew
          have HY7 := Lib.hid HY6.out.drew
          generalize w6.drew = w7 at *
          have hsz7 := HB7.out.size
          go_wp2_with (first | ((with_reducible refine wl_load 99 (.tmp 9) rfl ?_ sb 0 #[.int .i64 y.set, .int .i64 y.way, .int .i64 y.asid, .int .u64 y.page, .bool y.lf.v, .bool y.lf.r, .bool y.lf.w, .bool y.lf.x, .bool y.lf.u, .bool y.lf.g, .bool y.lf.a, .bool y.lf.d, .int .i64 y.lf.rsw, .int .u64 y.lf.ppn, .int .i64 y.lf.lev, .int .u64 y.lf.pos] ?_ HY7.out.range ?_ ?_); exact rfl; exact rfl; exact ex_row) | (at_builtin; (refine wpList_append_any _ rfl (.tmp 57) (.tmp 59) _ rfl W.heap.size 99 i0 _ 16 72 Try.underlying38 hi0 hz0 hz1 hz2 rfl (by decide) _ N.length (slC N) rfl (HO7.out.alloc _) (w7.heap.size + 1) (some ⟨w7.heap.size, 0, none⟩) 1 1 (Sl.vs y) rfl (reads_sl_at _ _ y (w7.heap.size) rfl) (one_sl _) (by unfold maxLen; have := HNL.out; have := HLN.out; omega) (by have := HNL.out; have := HLN.out; omega) (by simp; omega) ?_; intro v3 w3 hown hgrow hat; have HOWN := Lib.hid hown; have HE5 := Lib.hid ((HB7.out.alloc HB7.out.size _).grown hgrow (by have := HB7.out.size; simp; omega) (fun g hg => (HO7.out.lt g hg).1)); clear hown hgrow hat)))
          go_roundw
          case rel =>
            refine ⟨k + 1, hkl, by go_num, ?_, HE5.out⟩
            rw [HKP.out, slC_snoc, List.length_append]
            exact HOWN.out
          case measure => simp [intOf]; omega
      · have e3 : (y.asid == a) = false := by rw [beq_eq_false_iff_ne]; simpa using h3
        have HKP : Hid (stayP none (some a) (L.take (k + 1)) = stayP none (some a) (L.take k) ++ [y]) := Lib.hid (stay_step HY.out (by rw [goesL_eq]; skip; simp only [e3]; rfl))
        obtain ⟨N, hN⟩ : ∃ N, stayP none (some a) (L.take k) = N := ⟨_, rfl⟩
        rw [hN] at HKP HO6 HLN ⊢
        clear hN
        clear e3
        go_wp2_with fail
        have hva_ : ∀ W', Ext w6.drew W' → W'.cell? ⟨ga, 0, none⟩ = some (.int .i64 a) := fun W' h => (h.cell (cell_lt (HA6.out))).trans HA6.out
        have hv_asid : ∀ W', Ext w6.drew W' → W'.cell? ⟨sb, 2, none⟩ = some (.int .i64 y.asid) := fun W' h => (h.cell HY6.out.drew.lt).trans (HY6.out.drew.cell 2)
        refine wp_region_plan [(0, false), (1, false), (2, false), (3, false), (4, false), (5, false), (6, false), (7, false), (8, false), (9, false), (10, false), (11, false), (12, false), (13, false), (14, false), (15, false), (16, false), (17, false), (18, false), (19, false), (20, false)] (by kernel_rfl) (by kernel_rfl) (fun _ d _ _ _ h => by cases d <;> exact h) ?_
        iterate 13 (refine plan_take (v := ?_) rfl (by kernel_rfl) ?_ ?_; rotate_left; (focus (intro w' hw'; try go_simp; try with_reducible rfl)); simp only [Act.put, List.setIfInBounds_toArray, List.set_cons_zero, List.set_cons_succ])
        iterate 4 (refine plan_skip rfl (by kernel_rfl) ?_; simp only [Act.put, List.setIfInBounds_toArray, List.set_cons_zero, List.set_cons_succ])
        iterate 4 (refine plan_take (v := ?_) rfl (by kernel_rfl) ?_ ?_; rotate_left; (focus (intro w' hw'; try go_simp; try with_reducible rfl)); simp only [Act.put, List.setIfInBounds_toArray, List.set_cons_zero, List.set_cons_succ])
        refine plan_end ?_
        clear hva_ hv_asid h3
        have HO7 := Lib.hid (sown_below HO6.out (Below.refl _ _).drew)
        have HB7 := Lib.hid HB6.out.drew
        have HY7 := Lib.hid HY6.out.drew
        generalize w6.drew = w7 at *
        have hsz7 := HB7.out.size
        go_wp2_with (first | ((with_reducible refine wl_load 99 (.tmp 9) rfl ?_ sb 0 #[.int .i64 y.set, .int .i64 y.way, .int .i64 y.asid, .int .u64 y.page, .bool y.lf.v, .bool y.lf.r, .bool y.lf.w, .bool y.lf.x, .bool y.lf.u, .bool y.lf.g, .bool y.lf.a, .bool y.lf.d, .int .i64 y.lf.rsw, .int .u64 y.lf.ppn, .int .i64 y.lf.lev, .int .u64 y.lf.pos] ?_ HY7.out.range ?_ ?_); exact rfl; exact rfl; exact ex_row) | (at_builtin; (refine wpList_append_any _ rfl (.tmp 57) (.tmp 59) _ rfl W.heap.size 99 i0 _ 16 72 Try.underlying38 hi0 hz0 hz1 hz2 rfl (by decide) _ N.length (slC N) rfl (HO7.out.alloc _) (w7.heap.size + 1) (some ⟨w7.heap.size, 0, none⟩) 1 1 (Sl.vs y) rfl (reads_sl_at _ _ y (w7.heap.size) rfl) (one_sl _) (by unfold maxLen; have := HNL.out; have := HLN.out; omega) (by have := HNL.out; have := HLN.out; omega) (by simp; omega) ?_; intro v3 w3 hown hgrow hat; have HOWN := Lib.hid hown; have HE5 := Lib.hid ((HB7.out.alloc HB7.out.size _).grown hgrow (by have := HB7.out.size; simp; omega) (fun g hg => (HO7.out.lt g hg).1)); clear hown hgrow hat)))
        go_roundw
        case rel =>
          refine ⟨k + 1, hkl, by go_num, ?_, HE5.out⟩
          rw [HKP.out, slC_snoc, List.length_append]
          exact HOWN.out
        case measure => simp [intOf]; omega
    · obtain rfl : l = k := by omega
      have HKP : Hid (stayP none (some a) (L.take l) = stayP none (some a) L) := Lib.hid (by rw [List.take_of_length_le (by rw [HN.out]; exact Nat.le_refl _)])
      rw [HKP.out] at HO HLN ⊢
      clear HKP
      obtain ⟨N, hNE⟩ : ∃ N, stayP none (some a) L = N := ⟨_, rfl⟩
      have hsub := HF.out
      rw [show L.filter (fun x => !goesL none (some a) x) = N from hNE] at hsub
      rw [hNE] at HO HLN ⊢
      have HNE := Lib.hid hNE
      clear hNE
      have hx2 := HX.out.below HB.out HXL.out
      have hc2 : wr.cell? ⟨gx, 2, none⟩ = some (.slice A l c) := by rw [HN.out]; exact hx2.cell 2
      have hl2 := hx2.lt
      have hf2 := Blk.frozen hx2 2
      have hln := HLN.out
      clear hx2 hbel
      go_wp2_with fail
      go_ret
      rw [HNE.out]
      exact ⟨rfl, putg_fin HB.out (Nat.le_refl _) HX.out HG.out HGL.out HO.out⟩
set_option maxRecDepth 20000 in
set_option maxHeartbeats 4000000 in
theorem rfence_SN (gx n m : Nat) (G : Nat → Prop) (L : List Sl) (T : List (List En)) (W : World) (gv va : Nat) (hva : va < 18446744073709551616) (hcv : W.cell? ⟨gv, 0, none⟩ = some (.int .u64 (va : Int))) (hK : TOk T n m) (hR : RefG W gx G n m L) (hP : L.Perm (listT 0 T)) :
    Calls Try.prog 19 #[.pointer (some ⟨gx, 0, none⟩), .slice (some ⟨gv, 0, none⟩) 1 1, .slice none 0 0] W fun e w' => e = .returned (.int .i64 ((fenceN T (some va) none : Nat) : Int)) ∧ PutG W gx G n m (stayP (some va) none L) w' := by
  have HF := Lib.hid (fence_perm hP (some va) none).2
  have HK := Lib.hid hK
  have HP := Lib.hid hP
  have HNL : Hid (L.length ≤ 512) := Lib.hid (hK.slots hP)
  obtain ⟨A, c, hb, hr, hG, _, hGl⟩ := hR
  obtain ⟨i0, hi0, hz0, hz1, hz2⟩ := info_parts info_sl
  have HX := Lib.hid hb
  have HG := Lib.hid hG
  have HGL := Lib.hid hGl
  have HXL := Lib.hid hb.lt
  have HRW := Lib.hid hr
  have c2 := hb.cell 2
  simp only [List.getElem?_toArray, List.getElem?_cons_zero, List.getElem?_cons_succ] at c2
  obtain ⟨l, hn⟩ : ∃ l, l = L.length := ⟨_, rfl⟩
  have HN := Lib.hid hn
  rw [← hn] at c2 HNL HF
  have HVA := Lib.hid hva
  have HCV := Lib.hid hcv
  clear hva hcv
  clear hb hr hG hGl hn hK hP
  go_enter Try.func19, Try.ntmps19
  go_wp2_with fail
  go_loopw [7, 17] (fun v i wr => ∃ k : Nat, k ≤ l ∧ i = .int .i64 k ∧ wr.ownsRow W.heap.size 99 16 v (stayP (some va) none (L.take k)).length (slC (stayP (some va) none (L.take k))) ∧ Below W.heap.size W wr) (fun _ i _ => l - (intOf i).toNat)
  case atStart => exact ⟨0, by omega, rfl, World.ownsRow_nil _ _ _ _, Below.refl _ _⟩
  clear c2
  case round =>
    obtain ⟨k, hk, rfl, ho, hbel⟩ := hrel
    obtain ⟨Av, cv, hv⟩ := tlb_row_form ho
    subst hv
    have HO := Lib.hid ho
    have HB := Lib.hid hbel
    have hsz := hbel.size
    have HLN : Hid ((stayP (some va) none (L.take k)).length ≤ l) := Lib.hid (Nat.le_trans (stay_length _ _ _) (by rw [List.length_take, HN.out]; exact Nat.min_le_right _ _))
    have hnb := HNL.out
    clear ho
    by_cases hkl : k < l
    · obtain ⟨y, hy⟩ : ∃ y, L[k]? = some y := ⟨_, List.getElem?_eq_getElem (by rw [← HN.out]; exact hkl)⟩
      obtain ⟨b, e, hrg⟩ := HRW.out.range (fun e => by rw [e] at hy; simp at hy)
      obtain rfl : A = some ⟨b, 0, none⟩ := by injection e
      clear e
      have HRG : Hid (wr.rangeAt b (k * 16) #[.int .i64 y.set, .int .i64 y.way, .int .i64 y.asid, .int .u64 y.page, .bool y.lf.v, .bool y.lf.r, .bool y.lf.w, .bool y.lf.x, .bool y.lf.u, .bool y.lf.g, .bool y.lf.a, .bool y.lf.d, .int .i64 y.lf.rsw, .int .u64 y.lf.ppn, .int .i64 y.lf.lev, .int .u64 y.lf.pos].toList) := Lib.hid (range_below (hrg k y hy) hbel)
      have HLV := Lib.hid (slot_lev HK.out HP.out hy)
      have HY := Lib.hid hy
      have hal := (Below.refl wr.heap.size wr).alloc (Nat.le_refl _) (.cells #[.int .i64 y.set, .int .i64 y.way, .int .i64 y.asid, .int .u64 y.page, .bool y.lf.v, .bool y.lf.r, .bool y.lf.w, .bool y.lf.x, .bool y.lf.u, .bool y.lf.g, .bool y.lf.a, .bool y.lf.d, .int .i64 y.lf.rsw, .int .u64 y.lf.ppn, .int .i64 y.lf.lev, .int .u64 y.lf.pos] 99)
      have HYA := Lib.hid (Blkf.new_at wr 99 (0, 0) #[.int .i64 y.set, .int .i64 y.way, .int .i64 y.asid, .int .u64 y.page, .bool y.lf.v, .bool y.lf.r, .bool y.lf.w, .bool y.lf.x, .bool y.lf.u, .bool y.lf.g, .bool y.lf.a, .bool y.lf.d, .int .i64 y.lf.rsw, .int .u64 y.lf.ppn, .int .i64 y.lf.lev, .int .u64 y.lf.pos] rfl)
      have HOA := Lib.hid (HO.out.alloc (.cells #[.int .i64 y.set, .int .i64 y.way, .int .i64 y.asid, .int .u64 y.page, .bool y.lf.v, .bool y.lf.r, .bool y.lf.w, .bool y.lf.x, .bool y.lf.u, .bool y.lf.g, .bool y.lf.a, .bool y.lf.d, .int .i64 y.lf.rsw, .int .u64 y.lf.ppn, .int .i64 y.lf.lev, .int .u64 y.lf.pos] 99))
      have HBA := Lib.hid (HB.out.alloc hsz (.cells #[.int .i64 y.set, .int .i64 y.way, .int .i64 y.asid, .int .u64 y.page, .bool y.lf.v, .bool y.lf.r, .bool y.lf.w, .bool y.lf.x, .bool y.lf.u, .bool y.lf.g, .bool y.lf.a, .bool y.lf.d, .int .i64 y.lf.rsw, .int .u64 y.lf.ppn, .int .i64 y.lf.lev, .int .u64 y.lf.pos] 99))
      clear hrg hy hal
      go_wp2_with (first | ((with_reducible refine wl_load 99 (.tmp 19) rfl ?_ b (k * 16) #[.int .i64 y.set, .int .i64 y.way, .int .i64 y.asid, .int .u64 y.page, .bool y.lf.v, .bool y.lf.r, .bool y.lf.w, .bool y.lf.x, .bool y.lf.u, .bool y.lf.g, .bool y.lf.a, .bool y.lf.d, .int .i64 y.lf.rsw, .int .u64 y.lf.ppn, .int .i64 y.lf.lev, .int .u64 y.lf.pos] ?_ HRG.out ?_ ?_); exact rfl; exact rfl; exact ex_row) | ((with_reducible refine wl_store_new 99 (.tmp 9) (.tmp 20) rfl ?_ wr (World.heap wr).size 99 #[.int .i64 0, .int .i64 0, .int .i64 0, .int .u64 0, .bool false, .bool false, .bool false, .bool false, .bool false, .bool false, .bool false, .bool false, .int .i64 0, .int .u64 0, .int .i64 0, .int .u64 0] #[.int .i64 y.set, .int .i64 y.way, .int .i64 y.asid, .int .u64 y.page, .bool y.lf.v, .bool y.lf.r, .bool y.lf.w, .bool y.lf.x, .bool y.lf.u, .bool y.lf.g, .bool y.lf.a, .bool y.lf.d, .int .i64 y.lf.rsw, .int .u64 y.lf.ppn, .int .i64 y.lf.lev, .int .u64 y.lf.pos] ?_ ?_ ?_ ?_ ?_ ?_ ?_ ?_); exact rfl; exact rfl; exact rfl; exact rfl; exact rfl; exact rfl; exact ex_row; exact ex_one y))
      obtain ⟨sb, hsb⟩ : ∃ sb, sb = wr.heap.size := ⟨_, rfl⟩
      rw [← hsb] at HYA ⊢
      clear hsb
      generalize wr.alloc (.cells #[.int .i64 y.set, .int .i64 y.way, .int .i64 y.asid, .int .u64 y.page, .bool y.lf.v, .bool y.lf.r, .bool y.lf.w, .bool y.lf.x, .bool y.lf.u, .bool y.lf.g, .bool y.lf.a, .bool y.lf.d, .int .i64 y.lf.rsw, .int .u64 y.lf.ppn, .int .i64 y.lf.lev, .int .u64 y.lf.pos] 99) = wa at *
      have hvv : ∀ W', Ext wa.drew W' → W'.cell? ⟨gv, 0, none⟩ = some (.int .u64 (va : Int)) := fun W' h => (h.cell (p := ⟨gv, 0, none⟩) (Nat.lt_of_lt_of_le (cell_lt HCV.out) HBA.out.size)).trans ((HBA.out.cell (p := ⟨gv, 0, none⟩) (cell_lt HCV.out)).trans HCV.out)
      have hv_lev : ∀ W', Ext wa.drew W' → W'.cell? ⟨sb, 14, none⟩ = some (.int .i64 y.lf.lev) := fun W' h => (h.cell HYA.out.drew.lt).trans (HYA.out.drew.cell 14)
      have hv_page : ∀ W', Ext wa.drew W' → W'.cell? ⟨sb, 3, none⟩ = some (.int .u64 (y.page : Int)) := fun W' h => (h.cell HYA.out.drew.lt).trans (HYA.out.drew.cell 3)
      refine wp_region_plan [(0, false), (1, false), (2, false), (3, false), (4, false), (5, false), (6, false), (7, false), (8, false), (9, false), (11, false), (12, false), (10, true), (13, false), (14, false), (15, false)] (by kernel_rfl) (by kernel_rfl) (fun _ d _ _ _ h => by cases d <;> exact h) ?_
      iterate 12 (refine plan_take (v := ?_) rfl (by kernel_rfl) ?_ ?_; rotate_left; (focus (intro w' hw'; try go_simp; try with_reducible rfl)); simp only [Act.put, List.setIfInBounds_toArray, List.set_cons_zero, List.set_cons_succ])
      refine plan_call rfl (by kernel_rfl) (by go_simp; exact ⟨rfl, rfl⟩) ?_
      refine (rpage_any va y.lf.lev _ HVA.out HLV.out).mono ?_
      rintro _ w5 ⟨rfl, hb5⟩
      have HO6 := Lib.hid (sown_below HOA.out ((Below.refl wa.heap.size wa).drew.trans hb5))
      have HB6 := Lib.hid (HBA.out.drew.trans (hb5.mono HBA.out.size))
      have HY6 := Lib.hid (HYA.out.drew.below hb5 HYA.out.drew.lt)
      clear hvv hv_lev hv_page HOA HBA HYA
      refine ⟨_, rfl, hb5, ?_⟩
      simp only [Act.put, List.setIfInBounds_toArray, List.set_cons_zero, List.set_cons_succ]
      clear hb5
      cases h2 : (((pgN va y.lf.lev : Nat) : Int) != (y.page : Int))
      · have e2 : (y.page == pgN va y.lf.lev) = true := pg_eq h2
        iterate 3 (refine plan_take (v := ?_) rfl (by kernel_rfl) ?_ ?_; rotate_left; (focus (intro w' hw'; try go_simp; try with_reducible rfl)); simp only [Act.put, List.setIfInBounds_toArray, List.set_cons_zero, List.set_cons_succ])
        refine plan_end ?_
        have HKP : Hid (stayP (some va) none (L.take (k + 1)) = stayP (some va) none (L.take k)) := Lib.hid (stay_skip HY.out (by rw [goesL_eq]; simp only [e2]; rfl))
        obtain ⟨N, hN⟩ : ∃ N, stayP (some va) none (L.take k) = N := ⟨_, rfl⟩
        rw [hN] at HKP HO6 HLN ⊢
        clear hN
        go_wp2_with fail
        refine wp_region_plan [(0, false), (1, false), (2, false), (3, false), (4, false), (5, false), (6, false), (7, false), (8, false), (9, false), (10, false), (11, false), (12, false), (13, false), (14, false), (15, false), (16, false), (17, false), (18, false), (19, false), (20, false)] (by kernel_rfl) (by kernel_rfl) (fun _ d _ _ _ h => by cases d <;> exact h) ?_
        iterate 6 (refine plan_take (v := ?_) rfl (by kernel_rfl) ?_ ?_; rotate_left; (focus (intro w' hw'; try go_simp; try with_reducible rfl)); simp only [Act.put, List.setIfInBounds_toArray, List.set_cons_zero, List.set_cons_succ])
        iterate 12 (refine plan_skip rfl (by kernel_rfl) ?_; simp only [Act.put, List.setIfInBounds_toArray, List.set_cons_zero, List.set_cons_succ])
        iterate 3 (refine plan_take (v := ?_) rfl (by kernel_rfl) ?_ ?_; rotate_left; (focus (intro w' hw'; try go_simp; try with_reducible rfl)); simp only [Act.put, List.setIfInBounds_toArray, List.set_cons_zero, List.set_cons_succ])
        refine plan_end ?_
        have HO7 := Lib.hid (sown_below HO6.out (Below.refl _ _).drew)
        have HB7 := Lib.hid HB6.out.drew
        have HY7 := Lib.hid HY6.out.drew
        generalize w5.drew = w7 at *
        go_wp2_with fail
        go_roundw
        case rel => exact ⟨k + 1, hkl, by go_num, by rw [HKP.out]; exact HO7.out, HB7.out⟩
        case measure => simp [intOf]; omega
      · have e2 : (y.page == pgN va y.lf.lev) = false := pg_ne h2
        iterate 3 (refine plan_take (v := ?_) rfl (by kernel_rfl) ?_ ?_; rotate_left; (focus (intro w' hw'; try go_simp; try with_reducible rfl)); simp only [Act.put, List.setIfInBounds_toArray, List.set_cons_zero, List.set_cons_succ])
        refine plan_end ?_
        have HKP : Hid (stayP (some va) none (L.take (k + 1)) = stayP (some va) none (L.take k) ++ [y]) := Lib.hid (stay_step HY.out (by rw [goesL_eq]; simp only [e2]; rfl))
        obtain ⟨N, hN⟩ : ∃ N, stayP (some va) none (L.take k) = N := ⟨_, rfl⟩
        rw [hN] at HKP HO6 HLN ⊢
        clear hN
        go_wp2_with fail
        refine wp_region_plan [(0, false), (1, false), (2, false), (3, false), (4, false), (5, false), (6, false), (7, false), (8, false), (9, false), (10, false), (11, false), (12, false), (13, false), (14, false), (15, false), (16, false), (17, false), (18, false), (19, false), (20, false)] (by kernel_rfl) (by kernel_rfl) (fun _ d _ _ _ h => by cases d <;> exact h) ?_
        iterate 2 (refine plan_take (v := ?_) rfl (by kernel_rfl) ?_ ?_; rotate_left; (focus (intro w' hw'; try go_simp; try with_reducible rfl)); simp only [Act.put, List.setIfInBounds_toArray, List.set_cons_zero, List.set_cons_succ])
        iterate 17 (refine plan_skip rfl (by kernel_rfl) ?_; simp only [Act.put, List.setIfInBounds_toArray, List.set_cons_zero, List.set_cons_succ])
        iterate 2 (refine plan_take (v := ?_) rfl (by kernel_rfl) ?_ ?_; rotate_left; (focus (intro w' hw'; try go_simp; try with_reducible rfl)); simp only [Act.put, List.setIfInBounds_toArray, List.set_cons_zero, List.set_cons_succ])
        refine plan_end ?_
        have HO7 := Lib.hid (sown_below HO6.out (Below.refl _ _).drew)
        have HB7 := Lib.hid HB6.out.drew
        have HY7 := Lib.hid HY6.out.drew
        generalize w5.drew = w7 at *
        have hsz7 := HB7.out.size
        go_wp2_with (first | ((with_reducible refine wl_load 99 (.tmp 9) rfl ?_ sb 0 #[.int .i64 y.set, .int .i64 y.way, .int .i64 y.asid, .int .u64 y.page, .bool y.lf.v, .bool y.lf.r, .bool y.lf.w, .bool y.lf.x, .bool y.lf.u, .bool y.lf.g, .bool y.lf.a, .bool y.lf.d, .int .i64 y.lf.rsw, .int .u64 y.lf.ppn, .int .i64 y.lf.lev, .int .u64 y.lf.pos] ?_ HY7.out.range ?_ ?_); exact rfl; exact rfl; exact ex_row) | (at_builtin; (refine wpList_append_any _ rfl (.tmp 57) (.tmp 59) _ rfl W.heap.size 99 i0 _ 16 72 Try.underlying38 hi0 hz0 hz1 hz2 rfl (by decide) _ N.length (slC N) rfl (HO7.out.alloc _) (w7.heap.size + 1) (some ⟨w7.heap.size, 0, none⟩) 1 1 (Sl.vs y) rfl (reads_sl_at _ _ y (w7.heap.size) rfl) (one_sl _) (by unfold maxLen; have := HNL.out; have := HLN.out; omega) (by have := HNL.out; have := HLN.out; omega) (by simp; omega) ?_; intro v3 w3 hown hgrow hat; have HOWN := Lib.hid hown; have HE5 := Lib.hid ((HB7.out.alloc HB7.out.size _).grown hgrow (by have := HB7.out.size; simp; omega) (fun g hg => (HO7.out.lt g hg).1)); clear hown hgrow hat)))
        go_roundw
        case rel =>
          refine ⟨k + 1, hkl, by go_num, ?_, HE5.out⟩
          rw [HKP.out, slC_snoc, List.length_append]
          exact HOWN.out
        case measure => simp [intOf]; omega
    · obtain rfl : l = k := by omega
      have HKP : Hid (stayP (some va) none (L.take l) = stayP (some va) none L) := Lib.hid (by rw [List.take_of_length_le (by rw [HN.out]; exact Nat.le_refl _)])
      rw [HKP.out] at HO HLN ⊢
      clear HKP
      obtain ⟨N, hNE⟩ : ∃ N, stayP (some va) none L = N := ⟨_, rfl⟩
      have hsub := HF.out
      rw [show L.filter (fun x => !goesL (some va) none x) = N from hNE] at hsub
      rw [hNE] at HO HLN ⊢
      have HNE := Lib.hid hNE
      clear hNE
      have hx2 := HX.out.below HB.out HXL.out
      have hc2 : wr.cell? ⟨gx, 2, none⟩ = some (.slice A l c) := by rw [HN.out]; exact hx2.cell 2
      have hl2 := hx2.lt
      have hf2 := Blk.frozen hx2 2
      have hln := HLN.out
      clear hx2 hbel
      go_wp2_with fail
      go_ret
      rw [HNE.out]
      exact ⟨rfl, putg_fin HB.out (Nat.le_refl _) HX.out HG.out HGL.out HO.out⟩
set_option maxRecDepth 20000 in
set_option maxHeartbeats 4000000 in
theorem rfence_SS (gx n m : Nat) (G : Nat → Prop) (L : List Sl) (T : List (List En)) (W : World) (gv va : Nat) (hva : va < 18446744073709551616) (hcv : W.cell? ⟨gv, 0, none⟩ = some (.int .u64 (va : Int))) (ga : Nat) (a : Int) (hca : W.cell? ⟨ga, 0, none⟩ = some (.int .i64 a)) (hK : TOk T n m) (hR : RefG W gx G n m L) (hP : L.Perm (listT 0 T)) :
    Calls Try.prog 19 #[.pointer (some ⟨gx, 0, none⟩), .slice (some ⟨gv, 0, none⟩) 1 1, .slice (some ⟨ga, 0, none⟩) 1 1] W fun e w' => e = .returned (.int .i64 ((fenceN T (some va) (some a) : Nat) : Int)) ∧ PutG W gx G n m (stayP (some va) (some a) L) w' := by
  have HF := Lib.hid (fence_perm hP (some va) (some a)).2
  have HK := Lib.hid hK
  have HP := Lib.hid hP
  have HNL : Hid (L.length ≤ 512) := Lib.hid (hK.slots hP)
  obtain ⟨A, c, hb, hr, hG, _, hGl⟩ := hR
  obtain ⟨i0, hi0, hz0, hz1, hz2⟩ := info_parts info_sl
  have HX := Lib.hid hb
  have HG := Lib.hid hG
  have HGL := Lib.hid hGl
  have HXL := Lib.hid hb.lt
  have HRW := Lib.hid hr
  have c2 := hb.cell 2
  simp only [List.getElem?_toArray, List.getElem?_cons_zero, List.getElem?_cons_succ] at c2
  obtain ⟨l, hn⟩ : ∃ l, l = L.length := ⟨_, rfl⟩
  have HN := Lib.hid hn
  rw [← hn] at c2 HNL HF
  have HVA := Lib.hid hva
  have HCV := Lib.hid hcv
  clear hva hcv
  have HCA := Lib.hid hca
  clear hca
  clear hb hr hG hGl hn hK hP
  go_enter Try.func19, Try.ntmps19
  go_wp2_with fail
  go_loopw [7, 17] (fun v i wr => ∃ k : Nat, k ≤ l ∧ i = .int .i64 k ∧ wr.ownsRow W.heap.size 99 16 v (stayP (some va) (some a) (L.take k)).length (slC (stayP (some va) (some a) (L.take k))) ∧ Below W.heap.size W wr) (fun _ i _ => l - (intOf i).toNat)
  case atStart => exact ⟨0, by omega, rfl, World.ownsRow_nil _ _ _ _, Below.refl _ _⟩
  clear c2
  case round =>
    obtain ⟨k, hk, rfl, ho, hbel⟩ := hrel
    obtain ⟨Av, cv, hv⟩ := tlb_row_form ho
    subst hv
    have HO := Lib.hid ho
    have HB := Lib.hid hbel
    have hsz := hbel.size
    have HLN : Hid ((stayP (some va) (some a) (L.take k)).length ≤ l) := Lib.hid (Nat.le_trans (stay_length _ _ _) (by rw [List.length_take, HN.out]; exact Nat.min_le_right _ _))
    have hnb := HNL.out
    clear ho
    by_cases hkl : k < l
    · obtain ⟨y, hy⟩ : ∃ y, L[k]? = some y := ⟨_, List.getElem?_eq_getElem (by rw [← HN.out]; exact hkl)⟩
      obtain ⟨b, e, hrg⟩ := HRW.out.range (fun e => by rw [e] at hy; simp at hy)
      obtain rfl : A = some ⟨b, 0, none⟩ := by injection e
      clear e
      have HRG : Hid (wr.rangeAt b (k * 16) #[.int .i64 y.set, .int .i64 y.way, .int .i64 y.asid, .int .u64 y.page, .bool y.lf.v, .bool y.lf.r, .bool y.lf.w, .bool y.lf.x, .bool y.lf.u, .bool y.lf.g, .bool y.lf.a, .bool y.lf.d, .int .i64 y.lf.rsw, .int .u64 y.lf.ppn, .int .i64 y.lf.lev, .int .u64 y.lf.pos].toList) := Lib.hid (range_below (hrg k y hy) hbel)
      have HLV := Lib.hid (slot_lev HK.out HP.out hy)
      have HY := Lib.hid hy
      have hal := (Below.refl wr.heap.size wr).alloc (Nat.le_refl _) (.cells #[.int .i64 y.set, .int .i64 y.way, .int .i64 y.asid, .int .u64 y.page, .bool y.lf.v, .bool y.lf.r, .bool y.lf.w, .bool y.lf.x, .bool y.lf.u, .bool y.lf.g, .bool y.lf.a, .bool y.lf.d, .int .i64 y.lf.rsw, .int .u64 y.lf.ppn, .int .i64 y.lf.lev, .int .u64 y.lf.pos] 99)
      have HYA := Lib.hid (Blkf.new_at wr 99 (0, 0) #[.int .i64 y.set, .int .i64 y.way, .int .i64 y.asid, .int .u64 y.page, .bool y.lf.v, .bool y.lf.r, .bool y.lf.w, .bool y.lf.x, .bool y.lf.u, .bool y.lf.g, .bool y.lf.a, .bool y.lf.d, .int .i64 y.lf.rsw, .int .u64 y.lf.ppn, .int .i64 y.lf.lev, .int .u64 y.lf.pos] rfl)
      have HOA := Lib.hid (HO.out.alloc (.cells #[.int .i64 y.set, .int .i64 y.way, .int .i64 y.asid, .int .u64 y.page, .bool y.lf.v, .bool y.lf.r, .bool y.lf.w, .bool y.lf.x, .bool y.lf.u, .bool y.lf.g, .bool y.lf.a, .bool y.lf.d, .int .i64 y.lf.rsw, .int .u64 y.lf.ppn, .int .i64 y.lf.lev, .int .u64 y.lf.pos] 99))
      have HBA := Lib.hid (HB.out.alloc hsz (.cells #[.int .i64 y.set, .int .i64 y.way, .int .i64 y.asid, .int .u64 y.page, .bool y.lf.v, .bool y.lf.r, .bool y.lf.w, .bool y.lf.x, .bool y.lf.u, .bool y.lf.g, .bool y.lf.a, .bool y.lf.d, .int .i64 y.lf.rsw, .int .u64 y.lf.ppn, .int .i64 y.lf.lev, .int .u64 y.lf.pos] 99))
      clear hrg hy hal
      go_wp2_with (first | ((with_reducible refine wl_load 99 (.tmp 19) rfl ?_ b (k * 16) #[.int .i64 y.set, .int .i64 y.way, .int .i64 y.asid, .int .u64 y.page, .bool y.lf.v, .bool y.lf.r, .bool y.lf.w, .bool y.lf.x, .bool y.lf.u, .bool y.lf.g, .bool y.lf.a, .bool y.lf.d, .int .i64 y.lf.rsw, .int .u64 y.lf.ppn, .int .i64 y.lf.lev, .int .u64 y.lf.pos] ?_ HRG.out ?_ ?_); exact rfl; exact rfl; exact ex_row) | ((with_reducible refine wl_store_new 99 (.tmp 9) (.tmp 20) rfl ?_ wr (World.heap wr).size 99 #[.int .i64 0, .int .i64 0, .int .i64 0, .int .u64 0, .bool false, .bool false, .bool false, .bool false, .bool false, .bool false, .bool false, .bool false, .int .i64 0, .int .u64 0, .int .i64 0, .int .u64 0] #[.int .i64 y.set, .int .i64 y.way, .int .i64 y.asid, .int .u64 y.page, .bool y.lf.v, .bool y.lf.r, .bool y.lf.w, .bool y.lf.x, .bool y.lf.u, .bool y.lf.g, .bool y.lf.a, .bool y.lf.d, .int .i64 y.lf.rsw, .int .u64 y.lf.ppn, .int .i64 y.lf.lev, .int .u64 y.lf.pos] ?_ ?_ ?_ ?_ ?_ ?_ ?_ ?_); exact rfl; exact rfl; exact rfl; exact rfl; exact rfl; exact rfl; exact ex_row; exact ex_one y))
      obtain ⟨sb, hsb⟩ : ∃ sb, sb = wr.heap.size := ⟨_, rfl⟩
      rw [← hsb] at HYA ⊢
      clear hsb
      generalize wr.alloc (.cells #[.int .i64 y.set, .int .i64 y.way, .int .i64 y.asid, .int .u64 y.page, .bool y.lf.v, .bool y.lf.r, .bool y.lf.w, .bool y.lf.x, .bool y.lf.u, .bool y.lf.g, .bool y.lf.a, .bool y.lf.d, .int .i64 y.lf.rsw, .int .u64 y.lf.ppn, .int .i64 y.lf.lev, .int .u64 y.lf.pos] 99) = wa at *
      have HAA : Hid (wa.cell? ⟨ga, 0, none⟩ = some (.int .i64 a)) := Lib.hid ((HBA.out.cell (p := ⟨ga, 0, none⟩) (cell_lt HCA.out)).trans HCA.out)
      have hvv : ∀ W', Ext wa.drew W' → W'.cell? ⟨gv, 0, none⟩ = some (.int .u64 (va : Int)) := fun W' h => (h.cell (p := ⟨gv, 0, none⟩) (Nat.lt_of_lt_of_le (cell_lt HCV.out) HBA.out.size)).trans ((HBA.out.cell (p := ⟨gv, 0, none⟩) (cell_lt HCV.out)).trans HCV.out)
      have hv_lev : ∀ W', Ext wa.drew W' → W'.cell? ⟨sb, 14, none⟩ = some (.int .i64 y.lf.lev) := fun W' h => (h.cell HYA.out.drew.lt).trans (HYA.out.drew.cell 14)
      have hv_page : ∀ W', Ext wa.drew W' → W'.cell? ⟨sb, 3, none⟩ = some (.int .u64 (y.page : Int)) := fun W' h => (h.cell HYA.out.drew.lt).trans (HYA.out.drew.cell 3)
      refine wp_region_plan [(0, false), (1, false), (2, false), (3, false), (4, false), (5, false), (6, false), (7, false), (8, false), (9, false), (11, false), (12, false), (10, true), (13, false), (14, false), (15, false)] (by kernel_rfl) (by kernel_rfl) (fun _ d _ _ _ h => by cases d <;> exact h) ?_
      iterate 12 (refine plan_take (v := ?_) rfl (by kernel_rfl) ?_ ?_; rotate_left; (focus (intro w' hw'; try go_simp; try with_reducible rfl)); simp only [Act.put, List.setIfInBounds_toArray, List.set_cons_zero, List.set_cons_succ])
      refine plan_call rfl (by kernel_rfl) (by go_simp; exact ⟨rfl, rfl⟩) ?_
      refine (rpage_any va y.lf.lev _ HVA.out HLV.out).mono ?_
      rintro _ w5 ⟨rfl, hb5⟩
      have HO6 := Lib.hid (sown_below HOA.out ((Below.refl wa.heap.size wa).drew.trans hb5))
      have HB6 := Lib.hid (HBA.out.drew.trans (hb5.mono HBA.out.size))
      have HY6 := Lib.hid (HYA.out.drew.below hb5 HYA.out.drew.lt)
      have HA6 : Hid (w5.cell? ⟨ga, 0, none⟩ = some (.int .i64 a)) := Lib.hid ((hb5.cell (p := ⟨ga, 0, none⟩) (cell_lt (w := wa.drew) HAA.out)).trans HAA.out)
      clear hvv hv_lev hv_page HOA HBA HYA
      refine ⟨_, rfl, hb5, ?_⟩
      simp only [Act.put, List.setIfInBounds_toArray, List.set_cons_zero, List.set_cons_succ]
      clear hb5
      cases h2 : (((pgN va y.lf.lev : Nat) : Int) != (y.page : Int))
      · have e2 : (y.page == pgN va y.lf.lev) = true := pg_eq h2
        iterate 3 (refine plan_take (v := ?_) rfl (by kernel_rfl) ?_ ?_; rotate_left; (focus (intro w' hw'; try go_simp; try with_reducible rfl)); simp only [Act.put, List.setIfInBounds_toArray, List.set_cons_zero, List.set_cons_succ])
        refine plan_end ?_
        cases h3 : (y.asid != a)
        · have e3 : (y.asid == a) = true := by simpa using h3
          cases h4 : y.lf.g
          · have HKP : Hid (stayP (some va) (some a) (L.take (k + 1)) = stayP (some va) (some a) (L.take k)) := Lib.hid (stay_skip HY.out (by rw [goesL_eq]; simp only [e2]; simp only [e3, h4]; rfl))
            obtain ⟨N, hN⟩ : ∃ N, stayP (some va) (some a) (L.take k) = N := ⟨_, rfl⟩
            rw [hN] at HKP HO6 HLN ⊢
            clear hN
            clear e3
            go_wp2_with fail
            have hva_ : ∀ W', Ext w5.drew W' → W'.cell? ⟨ga, 0, none⟩ = some (.int .i64 a) := fun W' h => (h.cell (cell_lt (HA6.out))).trans HA6.out
            have hv_asid : ∀ W', Ext w5.drew W' → W'.cell? ⟨sb, 2, none⟩ = some (.int .i64 y.asid) := fun W' h => (h.cell HY6.out.drew.lt).trans (HY6.out.drew.cell 2)
            have hv_g : ∀ W', Ext w5.drew W' → W'.cell? ⟨sb, 9, none⟩ = some (.bool false) := fun W' h => by rw [← h4]; exact (h.cell HY6.out.drew.lt).trans (HY6.out.drew.cell 9)
            refine wp_region_plan [(0, false), (1, false), (2, false), (3, false), (4, false), (5, false), (6, false), (7, false), (8, false), (9, false), (10, false), (11, false), (12, false), (13, false), (14, false), (15, false), (16, false), (17, false), (18, false), (19, false), (20, false)] (by kernel_rfl) (by kernel_rfl) (fun _ d _ _ _ h => by cases d <;> exact h) ?_
            iterate 21 (refine plan_take (v := ?_) rfl (by kernel_rfl) ?_ ?_; rotate_left; (focus (intro w' hw'; try go_simp; try with_reducible rfl)); simp only [Act.put, List.setIfInBounds_toArray, List.set_cons_zero, List.set_cons_succ])
            refine plan_end ?_
            clear hva_ hv_asid hv_g h3 h4
            have HO7 := Lib.hid (sown_below HO6.out (Below.refl _ _).drew)
            have HB7 := Lib.hid HB6.out.drew
            have HY7 := Lib.hid HY6.out.drew
            generalize w5.drew = w7 at *
            go_wp2_with fail
            go_roundw
            case rel => exact ⟨k + 1, hkl, by go_num, by rw [HKP.out]; exact HO7.out, HB7.out⟩
            case measure => simp [intOf]; omega
          · have HKP : Hid (stayP (some va) (some a) (L.take (k + 1)) = stayP (some va) (some a) (L.take k) ++ [y]) := Lib.hid (stay_step HY.out (by rw [goesL_eq]; simp only [e2]; simp only [e3, h4]; rfl))
            obtain ⟨N, hN⟩ : ∃ N, stayP (some va) (some a) (L.take k) = N := ⟨_, rfl⟩
            rw [hN] at HKP HO6 HLN ⊢
            clear hN
            clear e3
            go_wp2_with fail
            have hva_ : ∀ W', Ext w5.drew W' → W'.cell? ⟨ga, 0, none⟩ = some (.int .i64 a) := fun W' h => (h.cell (cell_lt (HA6.out))).trans HA6.out
            have hv_asid : ∀ W', Ext w5.drew W' → W'.cell? ⟨sb, 2, none⟩ = some (.int .i64 y.asid) := fun W' h => (h.cell HY6.out.drew.lt).trans (HY6.out.drew.cell 2)
            have hv_g : ∀ W', Ext w5.drew W' → W'.cell? ⟨sb, 9, none⟩ = some (.bool true) := fun W' h => by rw [← h4]; exact (h.cell HY6.out.drew.lt).trans (HY6.out.drew.cell 9)
            refine wp_region_plan [(0, false), (1, false), (2, false), (3, false), (4, false), (5, false), (6, false), (7, false), (8, false), (9, false), (10, false), (11, false), (12, false), (13, false), (14, false), (15, false), (16, false), (17, false), (18, false), (19, false), (20, false)] (by kernel_rfl) (by kernel_rfl) (fun _ d _ _ _ h => by cases d <;> exact h) ?_
            iterate 21 (refine plan_take (v := ?_) rfl (by kernel_rfl) ?_ ?_; rotate_left; (focus (intro w' hw'; try go_simp; try with_reducible rfl)); simp only [Act.put, List.setIfInBounds_toArray, List.set_cons_zero, List.set_cons_succ])
            refine plan_end ?_
            clear hva_ hv_asid hv_g h3 h4
            have HO7 := Lib.hid (sown_below HO6.out (Below.refl _ _).drew)
            have HB7 := Lib.hid HB6.out.drew
            have HY7 := Lib.hid HY6.out.drew
            generalize w5.drew = w7 at *
            have hsz7 := HB7.out.size
            go_wp2_with (first | ((with_reducible refine wl_load 99 (.tmp 9) rfl ?_ sb 0 #[.int .i64 y.set, .int .i64 y.way, .int .i64 y.asid, .int .u64 y.page, .bool y.lf.v, .bool y.lf.r, .bool y.lf.w, .bool y.lf.x, .bool y.lf.u, .bool y.lf.g, .bool y.lf.a, .bool y.lf.d, .int .i64 y.lf.rsw, .int .u64 y.lf.ppn, .int .i64 y.lf.lev, .int .u64 y.lf.pos] ?_ HY7.out.range ?_ ?_); exact rfl; exact rfl; exact ex_row) | (at_builtin; (refine wpList_append_any _ rfl (.tmp 57) (.tmp 59) _ rfl W.heap.size 99 i0 _ 16 72 Try.underlying38 hi0 hz0 hz1 hz2 rfl (by decide) _ N.length (slC N) rfl (HO7.out.alloc _) (w7.heap.size + 1) (some ⟨w7.heap.size, 0, none⟩) 1 1 (Sl.vs y) rfl (reads_sl_at _ _ y (w7.heap.size) rfl) (one_sl _) (by unfold maxLen; have := HNL.out; have := HLN.out; omega) (by have := HNL.out; have := HLN.out; omega) (by simp; omega) ?_; intro v3 w3 hown hgrow hat; have HOWN := Lib.hid hown; have HE5 := Lib.hid ((HB7.out.alloc HB7.out.size _).grown hgrow (by have := HB7.out.size; simp; omega) (fun g hg => (HO7.out.lt g hg).1)); clear hown hgrow hat)))
            go_roundw
            case rel =>
              refine ⟨k + 1, hkl, by go_num, ?_, HE5.out⟩
              rw [HKP.out, slC_snoc, List.length_append]
              exact HOWN.out
            case measure => simp [intOf]; omega
        · have e3 : (y.asid == a) = false := by rw [beq_eq_false_iff_ne]; simpa using h3
          have HKP : Hid (stayP (some va) (some a) (L.take (k + 1)) = stayP (some va) (some a) (L.take k) ++ [y]) := Lib.hid (stay_step HY.out (by rw [goesL_eq]; simp only [e2]; simp only [e3]; rfl))
          obtain ⟨N, hN⟩ : ∃ N, stayP (some va) (some a) (L.take k) = N := ⟨_, rfl⟩
          rw [hN] at HKP HO6 HLN ⊢
          clear hN
          clear e3
          go_wp2_with fail
          have hva_ : ∀ W', Ext w5.drew W' → W'.cell? ⟨ga, 0, none⟩ = some (.int .i64 a) := fun W' h => (h.cell (cell_lt (HA6.out))).trans HA6.out
          have hv_asid : ∀ W', Ext w5.drew W' → W'.cell? ⟨sb, 2, none⟩ = some (.int .i64 y.asid) := fun W' h => (h.cell HY6.out.drew.lt).trans (HY6.out.drew.cell 2)
          refine wp_region_plan [(0, false), (1, false), (2, false), (3, false), (4, false), (5, false), (6, false), (7, false), (8, false), (9, false), (10, false), (11, false), (12, false), (13, false), (14, false), (15, false), (16, false), (17, false), (18, false), (19, false), (20, false)] (by kernel_rfl) (by kernel_rfl) (fun _ d _ _ _ h => by cases d <;> exact h) ?_
          iterate 13 (refine plan_take (v := ?_) rfl (by kernel_rfl) ?_ ?_; rotate_left; (focus (intro w' hw'; try go_simp; try with_reducible rfl)); simp only [Act.put, List.setIfInBounds_toArray, List.set_cons_zero, List.set_cons_succ])
          iterate 4 (refine plan_skip rfl (by kernel_rfl) ?_; simp only [Act.put, List.setIfInBounds_toArray, List.set_cons_zero, List.set_cons_succ])
          iterate 4 (refine plan_take (v := ?_) rfl (by kernel_rfl) ?_ ?_; rotate_left; (focus (intro w' hw'; try go_simp; try with_reducible rfl)); simp only [Act.put, List.setIfInBounds_toArray, List.set_cons_zero, List.set_cons_succ])
          refine plan_end ?_
          clear hva_ hv_asid h3
          have HO7 := Lib.hid (sown_below HO6.out (Below.refl _ _).drew)
          have HB7 := Lib.hid HB6.out.drew
          have HY7 := Lib.hid HY6.out.drew
          generalize w5.drew = w7 at *
          have hsz7 := HB7.out.size
          go_wp2_with (first | ((with_reducible refine wl_load 99 (.tmp 9) rfl ?_ sb 0 #[.int .i64 y.set, .int .i64 y.way, .int .i64 y.asid, .int .u64 y.page, .bool y.lf.v, .bool y.lf.r, .bool y.lf.w, .bool y.lf.x, .bool y.lf.u, .bool y.lf.g, .bool y.lf.a, .bool y.lf.d, .int .i64 y.lf.rsw, .int .u64 y.lf.ppn, .int .i64 y.lf.lev, .int .u64 y.lf.pos] ?_ HY7.out.range ?_ ?_); exact rfl; exact rfl; exact ex_row) | (at_builtin; (refine wpList_append_any _ rfl (.tmp 57) (.tmp 59) _ rfl W.heap.size 99 i0 _ 16 72 Try.underlying38 hi0 hz0 hz1 hz2 rfl (by decide) _ N.length (slC N) rfl (HO7.out.alloc _) (w7.heap.size + 1) (some ⟨w7.heap.size, 0, none⟩) 1 1 (Sl.vs y) rfl (reads_sl_at _ _ y (w7.heap.size) rfl) (one_sl _) (by unfold maxLen; have := HNL.out; have := HLN.out; omega) (by have := HNL.out; have := HLN.out; omega) (by simp; omega) ?_; intro v3 w3 hown hgrow hat; have HOWN := Lib.hid hown; have HE5 := Lib.hid ((HB7.out.alloc HB7.out.size _).grown hgrow (by have := HB7.out.size; simp; omega) (fun g hg => (HO7.out.lt g hg).1)); clear hown hgrow hat)))
          go_roundw
          case rel =>
            refine ⟨k + 1, hkl, by go_num, ?_, HE5.out⟩
            rw [HKP.out, slC_snoc, List.length_append]
            exact HOWN.out
          case measure => simp [intOf]; omega
      · have e2 : (y.page == pgN va y.lf.lev) = false := pg_ne h2
        iterate 3 (refine plan_take (v := ?_) rfl (by kernel_rfl) ?_ ?_; rotate_left; (focus (intro w' hw'; try go_simp; try with_reducible rfl)); simp only [Act.put, List.setIfInBounds_toArray, List.set_cons_zero, List.set_cons_succ])
        refine plan_end ?_
        have HKP : Hid (stayP (some va) (some a) (L.take (k + 1)) = stayP (some va) (some a) (L.take k) ++ [y]) := Lib.hid (stay_step HY.out (by rw [goesL_eq]; simp only [e2]; rfl))
        obtain ⟨N, hN⟩ : ∃ N, stayP (some va) (some a) (L.take k) = N := ⟨_, rfl⟩
        rw [hN] at HKP HO6 HLN ⊢
        clear hN
        go_wp2_with fail
        refine wp_region_plan [(0, false), (1, false), (2, false), (3, false), (4, false), (5, false), (6, false), (7, false), (8, false), (9, false), (10, false), (11, false), (12, false), (13, false), (14, false), (15, false), (16, false), (17, false), (18, false), (19, false), (20, false)] (by kernel_rfl) (by kernel_rfl) (fun _ d _ _ _ h => by cases d <;> exact h) ?_
        iterate 2 (refine plan_take (v := ?_) rfl (by kernel_rfl) ?_ ?_; rotate_left; (focus (intro w' hw'; try go_simp; try with_reducible rfl)); simp only [Act.put, List.setIfInBounds_toArray, List.set_cons_zero, List.set_cons_succ])
        iterate 17 (refine plan_skip rfl (by kernel_rfl) ?_; simp only [Act.put, List.setIfInBounds_toArray, List.set_cons_zero, List.set_cons_succ])
        iterate 2 (refine plan_take (v := ?_) rfl (by kernel_rfl) ?_ ?_; rotate_left; (focus (intro w' hw'; try go_simp; try with_reducible rfl)); simp only [Act.put, List.setIfInBounds_toArray, List.set_cons_zero, List.set_cons_succ])
        refine plan_end ?_
        have HO7 := Lib.hid (sown_below HO6.out (Below.refl _ _).drew)
        have HB7 := Lib.hid HB6.out.drew
        have HY7 := Lib.hid HY6.out.drew
        generalize w5.drew = w7 at *
        have hsz7 := HB7.out.size
        go_wp2_with (first | ((with_reducible refine wl_load 99 (.tmp 9) rfl ?_ sb 0 #[.int .i64 y.set, .int .i64 y.way, .int .i64 y.asid, .int .u64 y.page, .bool y.lf.v, .bool y.lf.r, .bool y.lf.w, .bool y.lf.x, .bool y.lf.u, .bool y.lf.g, .bool y.lf.a, .bool y.lf.d, .int .i64 y.lf.rsw, .int .u64 y.lf.ppn, .int .i64 y.lf.lev, .int .u64 y.lf.pos] ?_ HY7.out.range ?_ ?_); exact rfl; exact rfl; exact ex_row) | (at_builtin; (refine wpList_append_any _ rfl (.tmp 57) (.tmp 59) _ rfl W.heap.size 99 i0 _ 16 72 Try.underlying38 hi0 hz0 hz1 hz2 rfl (by decide) _ N.length (slC N) rfl (HO7.out.alloc _) (w7.heap.size + 1) (some ⟨w7.heap.size, 0, none⟩) 1 1 (Sl.vs y) rfl (reads_sl_at _ _ y (w7.heap.size) rfl) (one_sl _) (by unfold maxLen; have := HNL.out; have := HLN.out; omega) (by have := HNL.out; have := HLN.out; omega) (by simp; omega) ?_; intro v3 w3 hown hgrow hat; have HOWN := Lib.hid hown; have HE5 := Lib.hid ((HB7.out.alloc HB7.out.size _).grown hgrow (by have := HB7.out.size; simp; omega) (fun g hg => (HO7.out.lt g hg).1)); clear hown hgrow hat)))
        go_roundw
        case rel =>
          refine ⟨k + 1, hkl, by go_num, ?_, HE5.out⟩
          rw [HKP.out, slC_snoc, List.length_append]
          exact HOWN.out
        case measure => simp [intOf]; omega
    · obtain rfl : l = k := by omega
      have HKP : Hid (stayP (some va) (some a) (L.take l) = stayP (some va) (some a) L) := Lib.hid (by rw [List.take_of_length_le (by rw [HN.out]; exact Nat.le_refl _)])
      rw [HKP.out] at HO HLN ⊢
      clear HKP
      obtain ⟨N, hNE⟩ : ∃ N, stayP (some va) (some a) L = N := ⟨_, rfl⟩
      have hsub := HF.out
      rw [show L.filter (fun x => !goesL (some va) (some a) x) = N from hNE] at hsub
      rw [hNE] at HO HLN ⊢
      have HNE := Lib.hid hNE
      clear hNE
      have hx2 := HX.out.below HB.out HXL.out
      have hc2 : wr.cell? ⟨gx, 2, none⟩ = some (.slice A l c) := by rw [HN.out]; exact hx2.cell 2
      have hl2 := hx2.lt
      have hf2 := Blk.frozen hx2 2
      have hln := HLN.out
      clear hx2 hbel
      go_wp2_with fail
      go_ret
      rw [HNE.out]
      exact ⟨rfl, putg_fin HB.out (Nat.le_refl _) HX.out HG.out HGL.out HO.out⟩
end Go.Proofs.Ytecalibnnfcaeaa
