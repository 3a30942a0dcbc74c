/- Merged texts: TlbK, TlbL, TlbM, TlbPa, TlbPb, TlbPc. -/
import Derived.Test.YtophcgbddccpeaaGreatSk11
import Derived.Test.YtophcgbddccpeaaGreatPlanT
import Derived.Test.YtophcgbddccpeaaGreatWide
import Derived.DeepKeys
/- New. -/
namespace Go.Proofs.YtophcgbddccpeaaGreat
open Go.RowKit

def powB (s : Int) : Bool := s == 1 || s == 2 || s == 4 || s == 8 || s == 16 || s == 32 || s == 64
def rightS (s m : Int) : Bool := powB s && (decide (1 ≤ m) && decide (m ≤ 8))
theorem pow_and : ∀ s : Fin 65, 1 ≤ s.val → (bits .and .i64 (s.val : Int) ((s.val : Int) - 1) == 0) = powB (s.val : Int) := by decide +kernel
theorem pow_not {s : Int} (h : s < 1 ∨ 64 < s) : powB s = false := by
  unfold powB
  simp
  omega
def emptyT (n m : Nat) : List (List En) := List.replicate n (List.replicate m en0)
theorem waysC_zero : ∀ m : Nat, waysC (List.replicate m en0) = (List.replicate m en0.vs).flatten
  | 0 => rfl
  | m + 1 => by
    show en0.vs ++ waysC (List.replicate m en0) = _
    rw [waysC_zero m, List.replicate_succ, List.flatten_cons]
theorem info_way : (Tryz.prog.info? 152).map (fun i => (i.zero, i.size, i.bytes)) = some (some (.agg #[.bool false, .int .i64 0, .int .u64 0, .bool false, .bool false, .bool false, .bool false, .bool false, .bool false, .bool false, .bool false, .int .i64 0, .int .u64 0, .int .i64 0, .int .u64 0]), 15, 64) := by kernel_rfl
theorem made_ways (m : Nat) (h1 : 1 ≤ m) (h2 : m ≤ 8) : madeCells (#[.bool false, .int .i64 0, .int .u64 0, .bool false, .bool false, .bool false, .bool false, .bool false, .bool false, .bool false, .bool false, .int .i64 0, .int .u64 0, .int .i64 0, .int .u64 0] : Array Value) (m * 15) = (waysC (List.replicate m en0)).toArray := by
  rcases (show m = 1 ∨ m = 2 ∨ m = 3 ∨ m = 4 ∨ m = 5 ∨ m = 6 ∨ m = 7 ∨ m = 8 by omega) with rfl | rfl | rfl | rfl | rfl | rfl | rfl | rfl <;> kernel_rfl
theorem tlb_own_below {w w' : World} {base : Nat} {e : TypeId} {size : Nat} {v : Value} {n : Nat} {xs : List Value} (h : w.ownsRow base e size v n xs) (hb : Below w.heap.size w w') : w'.ownsRow base e size v n xs := by
  rcases h.2 with h2 | ⟨g, cap, cur, hv, hbg, hh, r⟩
  · exact ⟨h.1, .inl h2⟩
  · exact ⟨h.1, .inr ⟨g, cap, cur, hv, hbg, (hb.block g (by
      rcases Nat.lt_or_ge g w.heap.size with hlt | hge
      · exact hlt
      · rw [Array.getElem?_eq_none hge] at hh; cases hh)).trans hh, r⟩⟩
theorem tlb_below_grown {w wr w' : World} {base : Nat} {e : TypeId} {size : Nat} {v : Value} {n : Nat} {xs : List Value} (h : wr.ownsRow base e size v n xs) (hb : Below base w wr) (hg : wr.grownBy w' v.ownBlock) (hB : base ≤ wr.heap.size) : Below base w w' :=
  hb.grown hg hB (fun g hg => (h.lt g hg).1)
def SlOf (b m : Nat) : Value := .slice (some ⟨b, 0, none⟩) m m
/-- What holds behind k rounds. -/
def NewRel (W : World) (g m k : Nat) (wr : World) : Prop :=
  ∃ (Gl : List Nat) (v : Value), Gl.length = k ∧ Blk wr g 111 #[v] ∧ wr.ownsRow W.heap.size 112 1 v k (Gl.map (SlOf · m)) ∧ Below W.heap.size W wr ∧
    (∀ b ∈ Gl, Blk wr b 152 (waysC (List.replicate m en0)).toArray ∧ W.heap.size ≤ b) ∧ Gl.Nodup
theorem info_row : (Tryz.prog.info? 112).map (fun i => (i.zero, i.size, i.bytes)) = some (some (.slice none 0 0), 1, 24) := by kernel_rfl
set_option maxHeartbeats 4000000 in
theorem tlb_new_no (s m : Int) (W : World) (h : rightS s m = false) :
    Calls Tryz.prog 19 #[.int .i64 s, .int .i64 m] W fun e w' => e = .returned (.tuple #[.pointer none, .int .i64 2]) ∧ W = w' := by
  by_cases h1 : s < 1
  · go_enter Tryz.func19, Tryz.ntmps19
    go_wp2
    go_ret2
    exact ⟨rfl, rfl⟩
  by_cases h2 : 64 < s
  · go_enter Tryz.func19, Tryz.ntmps19
    go_wp2
    go_ret2
    exact ⟨rfl, rfl⟩
  obtain ⟨s, rfl⟩ := Int.eq_ofNat_of_zero_le (show 0 ≤ s by omega)
  have hp := pow_and ⟨s, by omega⟩ (by simp; omega)
  simp only at hp
  have hw : wrap64 ((s : Int) - 1) = (s : Int) - 1 := by unfold wrap64; omega
  cases hps : powB (s : Int)
  · rw [hps] at hp
    have hp2 : (bits .and .i64 (s : Int) ((s : Int) - 1) != 0) = true := by rw [bne, hp]; rfl
    clear hp hps h
    go_enter Tryz.func19, Tryz.ntmps19
    go_wp2
    go_ret2
    exact ⟨rfl, rfl⟩
  · rw [hps] at hp
    have hp2 : (bits .and .i64 (s : Int) ((s : Int) - 1) != 0) = false := by rw [bne, hp]; rfl
    have hm : m < 1 ∨ (¬ m < 1 ∧ 8 < m) := by
      unfold rightS at h
      rw [hps] at h
      simp at h
      omega
    clear hp hps h
    rcases hm with hm | ⟨hm, hm'⟩
    · go_enter Tryz.func19, Tryz.ntmps19
      go_wp2
      go_ret2
      exact ⟨rfl, rfl⟩
    · go_enter Tryz.func19, Tryz.ntmps19
      go_wp2
      go_ret2
      exact ⟨rfl, rfl⟩
set_option maxRecDepth 100000 in
set_option maxHeartbeats 4000000 in
theorem tlb_new_yes (s m : Nat) (W : World) (h : rightS s m = true) :
    Calls Tryz.prog 19 #[.int .i64 s, .int .i64 m] W fun e w' => e = .returned (.tuple #[.pointer (some ⟨W.heap.size, 0, none⟩), .int .i64 0]) ∧ NewRel W W.heap.size m s w' := by
  obtain ⟨i0, hi0, hz0, hz1, hz2⟩ := info_parts info_row
  have hb : 1 ≤ s ∧ s ≤ 64 ∧ 1 ≤ m ∧ m ≤ 8 ∧ powB s = true := by
    unfold rightS at h
    simp only [Bool.and_eq_true, decide_eq_true_eq] at h
    have h2 := h.1
    unfold powB at h2
    simp at h2
    exact ⟨by omega, by omega, by omega, by omega, h.1⟩
  obtain ⟨hs1, hs2, hm1, hm2, hps⟩ := hb
  have hmk : ∀ W, (Instr.makeSlice 112 (.int .i64 (m : Int)) (.int .i64 (m : Int))).run Tryz.prog W = .ok (.slice (some ⟨W.heap.size, 0, none⟩) m m) (W.alloc (.cells (waysC (List.replicate m en0)).toArray 152)) := fun W => by
    obtain ⟨i1, hi1, hy0, hy1, hy2⟩ := info_parts info_way
    have h := run_make (P := Tryz.prog) W 112 152 i1 _ Tryz.underlying112 hi1 hy0 .i64 .i64 (m : Int) (m : Int) (by omega) (by omega) (by rw [hy2]; omega) (by omega)
    rw [hy1] at h
    simp only [Int.toNat_natCast] at h
    rw [h]
    congr 3
    exact made_ways m hm1 hm2
  have hp := pow_and ⟨s, by omega⟩ (by simp; omega)
  simp only at hp
  rw [hps] at hp
  have hp2 : (bits .and .i64 (s : Int) ((s : Int) - 1) != 0) = false := by rw [bne, hp]; rfl
  clear hp hps h
  go_enter Tryz.func19, Tryz.ntmps19
  go_wp2_with fail
  go_loopw [31] (fun i wr => ∃ k : Nat, k ≤ s ∧ i = .int .i64 k ∧ NewRel W W.heap.size m k wr) (fun i _ => s - (intOf i).toNat)
  case atStart => exact ⟨0, by omega, rfl, [], .slice none 0 0, rfl, Blkf.new_at _ _ _ _ rfl, World.ownsRow_nil _ _ _ _, (Below.refl _ W).alloc (Nat.le_refl _) _, fun b hb => by simp at hb, List.nodup_nil⟩
  case round =>
    obtain ⟨k, hk, rfl, Gl, v, hgl, hX, hO, hE, hbs, hnd⟩ := hrel
    have HX := Lib.hid hX
    have HO := Lib.hid hO
    have HE := Lib.hid hE
    have HBS := Lib.hid hbs
    have HND := Lib.hid hnd
    have HGL := Lib.hid hgl
    clear hX hO hE hbs hnd hgl
    by_cases hks : k < s
    · go_wp2_with fail
      refine wp_region_pt (fun _ _ => True) ⟨fun _ => trivial, fun _ _ => trivial⟩ (PT.steps [0, 1, 2, 3, 5] (.fork 4 (.turn 6 (.turn 7 (.turn 8 (PT.steps [9, 10] (.turn 11 .done))))) 6 (.fork 4 (.turn 7 (.turn 8 (PT.steps [9, 10] (.turn 11 .done)))) 7 (.turn 4 (.turn 8 (PT.steps [9, 10] (.turn 11 .done))))))) (by kernel_rfl) (by kernel_rfl) (fun _ d _ _ _ h => by cases d <;> exact h) ?_
      unfold PT.steps
      iterate 5 (refine pt_take (v := ?_) rfl (by kernel_rfl) ?_ ?_; rotate_left; (focus (intro w' hw'; try go_simp; try with_reducible rfl)); simp only [Act.put, List.setIfInBounds_toArray, List.set_cons_zero, List.set_cons_succ])
      refine pt_fork ?_ ?_
      focus
        have t0 := (HX.out.drew).cell 0
        simp at t0
        refine pt_op (R := fun _ _ => True) rfl (by kernel_rfl) (fun K hK => ?_)
        go_simp
        refine hK _ _ ⟨trivial, ?_⟩
        clear hK K
        try simp only [Act.put, List.setIfInBounds_toArray, List.set_cons_zero, List.set_cons_succ]
        clear t0
        refine pt_turn ?_
        refine pt_op (R := fun _ _ => True) rfl (by kernel_rfl) (fun K hK => ?_)
        go_simp
        refine hK _ _ ⟨trivial, ?_⟩
        clear hK K
        try simp only [Act.put, List.setIfInBounds_toArray, List.set_cons_zero, List.set_cons_succ]
        obtain ⟨b, hb⟩ : ∃ b, b = wr.heap.size := ⟨_, rfl⟩
        have hE1 := (Below.refl wr.drew.heap.size wr.drew).alloc (Nat.le_refl _) (.cells (waysC (List.replicate m en0)).toArray 152)
        have hG1 : Blk (wr.drew.alloc (.cells (waysC (List.replicate m en0)).toArray 152)) b 152 (waysC (List.replicate m en0)).toArray := Blkf.new_at _ _ _ _ hb
        have HWB : Hid (W.heap.size ≤ b) := Lib.hid (by rw [hb]; exact HE.out.size)
        have HNB : Hid (∀ x ∈ Gl, x < b) := Lib.hid (fun x hx => by rw [hb]; exact (HBS.out x hx).1.lt)
        have hX1 := HX.out.drew.below hE1 HX.out.lt
        have hO1 := tlb_own_below HO.out.drew hE1
        have hC1 := HE.out.drew.trans (hE1.mono HE.out.size)
        have hS1 : ∀ x ∈ Gl, Blk (wr.drew.alloc (.cells (waysC (List.replicate m en0)).toArray 152)) x 152 (waysC (List.replicate m en0)).toArray := fun x hx => (HBS.out x hx).1.drew.below hE1 (HBS.out x hx).1.lt
        refine (show wpPT _ _ _ _ _ _ (wr.drew.alloc (.cells (waysC (List.replicate m en0)).toArray 152)) from ?_)
        rw [← hb]
        generalize wr.drew.alloc (.cells (waysC (List.replicate m en0)).toArray 152) = w1 at *
        clear hE1 hb
        refine pt_turn ?_
        refine pt_op (R := fun _ _ => True) rfl (by kernel_rfl) (fun K hK => ?_)
        go_simp
        refine hK _ _ ⟨trivial, ?_⟩
        clear hK K
        try simp only [Act.put, List.setIfInBounds_toArray, List.set_cons_zero, List.set_cons_succ]
        have hE2 := (Below.refl w1.heap.size w1).alloc (Nat.le_refl _) (.cells #[SlOf b m] 112)
        have hR2 : Reads (w1.alloc (.cells #[SlOf b m] 112)) (w1.heap.size + 1) 1 (some ⟨w1.heap.size, 0, none⟩) 1 [SlOf b m] := ⟨rfl, fun _ => ⟨_, rfl, Nat.lt_succ_self _, fun j u hj => by
          match j, hj with
          | 0, hj => exact ((Blkf.new_at w1 112 (0, 0) #[SlOf b m] rfl).cell 0).trans hj
          | j + 1, hj => simp at hj⟩⟩
        have hX2 := hX1.below hE2 hX1.lt
        have hO2 := tlb_own_below hO1 hE2
        have hC2 := hC1.trans (hE2.mono hC1.size)
        have hG2 := hG1.below hE2 hG1.lt
        have hS2 := fun x hx => (hS1 x hx).below hE2 (hS1 x hx).lt
        obtain ⟨g2, hg2⟩ : ∃ g, g = w1.heap.size := ⟨_, rfl⟩
        refine (show wpPT _ _ _ _ _ _ (w1.alloc (.cells #[SlOf b m] 112)) from ?_)
        rw [← hg2] at hR2 ⊢
        have hsz2 : g2 + 1 = (w1.alloc (.cells #[SlOf b m] 112)).heap.size := by rw [hg2]; simp
        generalize w1.alloc (.cells #[SlOf b m] 112) = w2 at *
        clear hE2 hX1 hO1 hC1 hG1 hS1 hg2
        refine pt_turn ?_
        refine pt_op (R := fun _ _ => True) rfl (by kernel_rfl) (fun K hK => ?_)
        refine wp_append_any _ (.tmp 37) (.tmp 40) _ rfl W.heap.size 112 i0 _ 1 24 Tryz.underlying109 hi0 hz0 hz1 hz2 rfl (by decide) v k (Gl.map (SlOf · m)) rfl hO2 (g2 + 1) (some ⟨g2, 0, none⟩) 1 1 [SlOf b m] rfl hR2 (fun u hu => by simp at hu; subst hu; rfl) (by unfold maxLen; omega) (by omega) hC2.size ?_
        intro v3 w3 hown hgrow _
        obtain ⟨A3, c3, rfl⟩ := tlb_row_form hown
        have hX3 := hX2.grown hgrow (fun e => row_ne_blk hO2 hX2 (by decide) e.symm)
        have hG3 := hG2.grown hgrow (fun e => row_ne_blk hO2 hG2 (by decide) e.symm)
        have hS3 := fun x hx => (hS2 x hx).grown hgrow (fun e => row_ne_blk hO2 (hS2 x hx) (by decide) e.symm)
        have hC3 := tlb_below_grown hO2 hC2 hgrow hC2.size
        refine hK _ _ ⟨trivial, ?_⟩
        clear hK K
        simp only [Act.put, List.setIfInBounds_toArray, List.set_cons_zero, List.set_cons_succ]
        clear hX2 hG2 hS2 hC2 hO2 hR2 hsz2 hgrow
        iterate 2 (refine pt_take (v := ?_) rfl (by kernel_rfl) ?_ ?_; rotate_left; (focus (intro w' hw'; try go_simp; try with_reducible rfl)); simp only [Act.put, List.setIfInBounds_toArray, List.set_cons_zero, List.set_cons_succ])
        have z0 := hX3.cell 0
        have zl := hX3.lt
        have zf := fun i => hX3.frozen i
        simp at z0
        refine pt_turn ?_
        refine pt_op (R := fun _ _ => True) rfl (by kernel_rfl) (fun K hK => ?_)
        go_simp
        refine hK _ _ ⟨trivial, ?_⟩
        clear hK K z0 zl zf
        refine pt_end ?_
        have hKp := (Keeps.refl (fun x => x = W.heap.size) w3).setCell (p := ⟨W.heap.size, 0, none⟩) (.inl rfl) (.slice A3 (k + 1) c3)
        have hX4 := hX3.set_ 0 (.slice A3 (k + 1) c3)
        have hO4 := hKp.row hown (fun x hx h => row_ne_blk hown hX3 (by decide) (by rw [hx, h]))
        have hC4 := hC3.setCell (p := ⟨W.heap.size, 0, none⟩) (Nat.le_refl _) (.slice A3 (k + 1) c3)
        have hG4 := hKp.blk hG3 (fun e => blk_ne_blk hX3 hG3 (by decide) e.symm)
        have hS4 := fun x hx => hKp.blk (hS3 x hx) (fun e => blk_ne_blk hX3 (hS3 x hx) (by decide) e.symm)
        simp at hX4
        generalize w3.setCell ⟨W.heap.size, 0, none⟩ (.slice A3 (k + 1) c3) = w4 at *
        have HREL : Hid (NewRel W W.heap.size m (k + 1) w4) := Lib.hid ⟨Gl ++ [b], .slice A3 (k + 1) c3, by rw [List.length_append, HGL.out]; rfl, hX4, by rw [List.map_append]; exact hO4, hC4, fun x hx => by
          rcases List.mem_append.1 hx with hx | hx
          · exact ⟨hS4 x hx, (HBS.out x hx).2⟩
          · simp at hx; rw [hx]; exact ⟨hG4, HWB.out⟩, by
          rw [List.nodup_append]
          refine ⟨HND.out, by simp, fun x hx y hy e => ?_⟩
          simp at hy
          have := HNB.out x hx
          omega⟩
        clear hX4 hO4 hC4 hG4 hS4 hKp hX3 hG3 hS3 hC3 hown
        go_wp2_with fail
        exact ⟨⟨k + 1, hks, by go_num, HREL.out⟩, by simp [intOf]; omega⟩
      focus
        refine pt_op (R := fun _ _ => True) rfl (by kernel_rfl) (fun K hK => ?_)
        go_simp
        refine hK _ _ ⟨trivial, ?_⟩
        clear hK K
        try simp only [Act.put, List.setIfInBounds_toArray, List.set_cons_zero, List.set_cons_succ]
        obtain ⟨b, hb⟩ : ∃ b, b = wr.heap.size := ⟨_, rfl⟩
        have hE1 := (Below.refl wr.drew.heap.size wr.drew).alloc (Nat.le_refl _) (.cells (waysC (List.replicate m en0)).toArray 152)
        have hG1 : Blk (wr.drew.alloc (.cells (waysC (List.replicate m en0)).toArray 152)) b 152 (waysC (List.replicate m en0)).toArray := Blkf.new_at _ _ _ _ hb
        have HWB : Hid (W.heap.size ≤ b) := Lib.hid (by rw [hb]; exact HE.out.size)
        have HNB : Hid (∀ x ∈ Gl, x < b) := Lib.hid (fun x hx => by rw [hb]; exact (HBS.out x hx).1.lt)
        have hX1 := HX.out.drew.below hE1 HX.out.lt
        have hO1 := tlb_own_below HO.out.drew hE1
        have hC1 := HE.out.drew.trans (hE1.mono HE.out.size)
        have hS1 : ∀ x ∈ Gl, Blk (wr.drew.alloc (.cells (waysC (List.replicate m en0)).toArray 152)) x 152 (waysC (List.replicate m en0)).toArray := fun x hx => (HBS.out x hx).1.drew.below hE1 (HBS.out x hx).1.lt
        refine (show wpPT _ _ _ _ _ _ (wr.drew.alloc (.cells (waysC (List.replicate m en0)).toArray 152)) from ?_)
        rw [← hb]
        generalize wr.drew.alloc (.cells (waysC (List.replicate m en0)).toArray 152) = w1 at *
        clear hE1 hb
        refine pt_fork ?_ ?_
        focus
          have t0 := (hX1).cell 0
          simp at t0
          refine pt_op (R := fun _ _ => True) rfl (by kernel_rfl) (fun K hK => ?_)
          go_simp
          refine hK _ _ ⟨trivial, ?_⟩
          clear hK K
          try simp only [Act.put, List.setIfInBounds_toArray, List.set_cons_zero, List.set_cons_succ]
          clear t0
          refine pt_turn ?_
          refine pt_op (R := fun _ _ => True) rfl (by kernel_rfl) (fun K hK => ?_)
          go_simp
          refine hK _ _ ⟨trivial, ?_⟩
          clear hK K
          try simp only [Act.put, List.setIfInBounds_toArray, List.set_cons_zero, List.set_cons_succ]
          have hE2 := (Below.refl w1.heap.size w1).alloc (Nat.le_refl _) (.cells #[SlOf b m] 112)
          have hR2 : Reads (w1.alloc (.cells #[SlOf b m] 112)) (w1.heap.size + 1) 1 (some ⟨w1.heap.size, 0, none⟩) 1 [SlOf b m] := ⟨rfl, fun _ => ⟨_, rfl, Nat.lt_succ_self _, fun j u hj => by
            match j, hj with
            | 0, hj => exact ((Blkf.new_at w1 112 (0, 0) #[SlOf b m] rfl).cell 0).trans hj
            | j + 1, hj => simp at hj⟩⟩
          have hX2 := hX1.below hE2 hX1.lt
          have hO2 := tlb_own_below hO1 hE2
          have hC2 := hC1.trans (hE2.mono hC1.size)
          have hG2 := hG1.below hE2 hG1.lt
          have hS2 := fun x hx => (hS1 x hx).below hE2 (hS1 x hx).lt
          obtain ⟨g2, hg2⟩ : ∃ g, g = w1.heap.size := ⟨_, rfl⟩
          refine (show wpPT _ _ _ _ _ _ (w1.alloc (.cells #[SlOf b m] 112)) from ?_)
          rw [← hg2] at hR2 ⊢
          have hsz2 : g2 + 1 = (w1.alloc (.cells #[SlOf b m] 112)).heap.size := by rw [hg2]; simp
          generalize w1.alloc (.cells #[SlOf b m] 112) = w2 at *
          clear hE2 hX1 hO1 hC1 hG1 hS1 hg2
          refine pt_turn ?_
          refine pt_op (R := fun _ _ => True) rfl (by kernel_rfl) (fun K hK => ?_)
          refine wp_append_any _ (.tmp 37) (.tmp 40) _ rfl W.heap.size 112 i0 _ 1 24 Tryz.underlying109 hi0 hz0 hz1 hz2 rfl (by decide) v k (Gl.map (SlOf · m)) rfl hO2 (g2 + 1) (some ⟨g2, 0, none⟩) 1 1 [SlOf b m] rfl hR2 (fun u hu => by simp at hu; subst hu; rfl) (by unfold maxLen; omega) (by omega) hC2.size ?_
          intro v3 w3 hown hgrow _
          obtain ⟨A3, c3, rfl⟩ := tlb_row_form hown
          have hX3 := hX2.grown hgrow (fun e => row_ne_blk hO2 hX2 (by decide) e.symm)
          have hG3 := hG2.grown hgrow (fun e => row_ne_blk hO2 hG2 (by decide) e.symm)
          have hS3 := fun x hx => (hS2 x hx).grown hgrow (fun e => row_ne_blk hO2 (hS2 x hx) (by decide) e.symm)
          have hC3 := tlb_below_grown hO2 hC2 hgrow hC2.size
          refine hK _ _ ⟨trivial, ?_⟩
          clear hK K
          simp only [Act.put, List.setIfInBounds_toArray, List.set_cons_zero, List.set_cons_succ]
          clear hX2 hG2 hS2 hC2 hO2 hR2 hsz2 hgrow
          iterate 2 (refine pt_take (v := ?_) rfl (by kernel_rfl) ?_ ?_; rotate_left; (focus (intro w' hw'; try go_simp; try with_reducible rfl)); simp only [Act.put, List.setIfInBounds_toArray, List.set_cons_zero, List.set_cons_succ])
          have z0 := hX3.cell 0
          have zl := hX3.lt
          have zf := fun i => hX3.frozen i
          simp at z0
          refine pt_turn ?_
          refine pt_op (R := fun _ _ => True) rfl (by kernel_rfl) (fun K hK => ?_)
          go_simp
          refine hK _ _ ⟨trivial, ?_⟩
          clear hK K z0 zl zf
          refine pt_end ?_
          have hKp := (Keeps.refl (fun x => x = W.heap.size) w3).setCell (p := ⟨W.heap.size, 0, none⟩) (.inl rfl) (.slice A3 (k + 1) c3)
          have hX4 := hX3.set_ 0 (.slice A3 (k + 1) c3)
          have hO4 := hKp.row hown (fun x hx h => row_ne_blk hown hX3 (by decide) (by rw [hx, h]))
          have hC4 := hC3.setCell (p := ⟨W.heap.size, 0, none⟩) (Nat.le_refl _) (.slice A3 (k + 1) c3)
          have hG4 := hKp.blk hG3 (fun e => blk_ne_blk hX3 hG3 (by decide) e.symm)
          have hS4 := fun x hx => hKp.blk (hS3 x hx) (fun e => blk_ne_blk hX3 (hS3 x hx) (by decide) e.symm)
          simp at hX4
          generalize w3.setCell ⟨W.heap.size, 0, none⟩ (.slice A3 (k + 1) c3) = w4 at *
          have HREL : Hid (NewRel W W.heap.size m (k + 1) w4) := Lib.hid ⟨Gl ++ [b], .slice A3 (k + 1) c3, by rw [List.length_append, HGL.out]; rfl, hX4, by rw [List.map_append]; exact hO4, hC4, fun x hx => by
            rcases List.mem_append.1 hx with hx | hx
            · exact ⟨hS4 x hx, (HBS.out x hx).2⟩
            · simp at hx; rw [hx]; exact ⟨hG4, HWB.out⟩, by
            rw [List.nodup_append]
            refine ⟨HND.out, by simp, fun x hx y hy e => ?_⟩
            simp at hy
            have := HNB.out x hx
            omega⟩
          clear hX4 hO4 hC4 hG4 hS4 hKp hX3 hG3 hS3 hC3 hown
          go_wp2_with fail
          exact ⟨⟨k + 1, hks, by go_num, HREL.out⟩, by simp [intOf]; omega⟩
        focus
          refine pt_op (R := fun _ _ => True) rfl (by kernel_rfl) (fun K hK => ?_)
          go_simp
          refine hK _ _ ⟨trivial, ?_⟩
          clear hK K
          try simp only [Act.put, List.setIfInBounds_toArray, List.set_cons_zero, List.set_cons_succ]
          have hE2 := (Below.refl w1.heap.size w1).alloc (Nat.le_refl _) (.cells #[SlOf b m] 112)
          have hR2 : Reads (w1.alloc (.cells #[SlOf b m] 112)) (w1.heap.size + 1) 1 (some ⟨w1.heap.size, 0, none⟩) 1 [SlOf b m] := ⟨rfl, fun _ => ⟨_, rfl, Nat.lt_succ_self _, fun j u hj => by
            match j, hj with
            | 0, hj => exact ((Blkf.new_at w1 112 (0, 0) #[SlOf b m] rfl).cell 0).trans hj
            | j + 1, hj => simp at hj⟩⟩
          have hX2 := hX1.below hE2 hX1.lt
          have hO2 := tlb_own_below hO1 hE2
          have hC2 := hC1.trans (hE2.mono hC1.size)
          have hG2 := hG1.below hE2 hG1.lt
          have hS2 := fun x hx => (hS1 x hx).below hE2 (hS1 x hx).lt
          obtain ⟨g2, hg2⟩ : ∃ g, g = w1.heap.size := ⟨_, rfl⟩
          refine (show wpPT _ _ _ _ _ _ (w1.alloc (.cells #[SlOf b m] 112)) from ?_)
          rw [← hg2] at hR2 ⊢
          have hsz2 : g2 + 1 = (w1.alloc (.cells #[SlOf b m] 112)).heap.size := by rw [hg2]; simp
          generalize w1.alloc (.cells #[SlOf b m] 112) = w2 at *
          clear hE2 hX1 hO1 hC1 hG1 hS1 hg2
          refine pt_turn ?_
          have t0 := (hX2).cell 0
          simp at t0
          refine pt_op (R := fun _ _ => True) rfl (by kernel_rfl) (fun K hK => ?_)
          go_simp
          refine hK _ _ ⟨trivial, ?_⟩
          clear hK K
          try simp only [Act.put, List.setIfInBounds_toArray, List.set_cons_zero, List.set_cons_succ]
          clear t0
          refine pt_turn ?_
          refine pt_op (R := fun _ _ => True) rfl (by kernel_rfl) (fun K hK => ?_)
          refine wp_append_any _ (.tmp 37) (.tmp 40) _ rfl W.heap.size 112 i0 _ 1 24 Tryz.underlying109 hi0 hz0 hz1 hz2 rfl (by decide) v k (Gl.map (SlOf · m)) rfl hO2 (g2 + 1) (some ⟨g2, 0, none⟩) 1 1 [SlOf b m] rfl hR2 (fun u hu => by simp at hu; subst hu; rfl) (by unfold maxLen; omega) (by omega) hC2.size ?_
          intro v3 w3 hown hgrow _
          obtain ⟨A3, c3, rfl⟩ := tlb_row_form hown
          have hX3 := hX2.grown hgrow (fun e => row_ne_blk hO2 hX2 (by decide) e.symm)
          have hG3 := hG2.grown hgrow (fun e => row_ne_blk hO2 hG2 (by decide) e.symm)
          have hS3 := fun x hx => (hS2 x hx).grown hgrow (fun e => row_ne_blk hO2 (hS2 x hx) (by decide) e.symm)
          have hC3 := tlb_below_grown hO2 hC2 hgrow hC2.size
          refine hK _ _ ⟨trivial, ?_⟩
          clear hK K
          simp only [Act.put, List.setIfInBounds_toArray, List.set_cons_zero, List.set_cons_succ]
          clear hX2 hG2 hS2 hC2 hO2 hR2 hsz2 hgrow
          iterate 2 (refine pt_take (v := ?_) rfl (by kernel_rfl) ?_ ?_; rotate_left; (focus (intro w' hw'; try go_simp; try with_reducible rfl)); simp only [Act.put, List.setIfInBounds_toArray, List.set_cons_zero, List.set_cons_succ])
          have z0 := hX3.cell 0
          have zl := hX3.lt
          have zf := fun i => hX3.frozen i
          simp at z0
          refine pt_turn ?_
          refine pt_op (R := fun _ _ => True) rfl (by kernel_rfl) (fun K hK => ?_)
          go_simp
          refine hK _ _ ⟨trivial, ?_⟩
          clear hK K z0 zl zf
          refine pt_end ?_
          have hKp := (Keeps.refl (fun x => x = W.heap.size) w3).setCell (p := ⟨W.heap.size, 0, none⟩) (.inl rfl) (.slice A3 (k + 1) c3)
          have hX4 := hX3.set_ 0 (.slice A3 (k + 1) c3)
          have hO4 := hKp.row hown (fun x hx h => row_ne_blk hown hX3 (by decide) (by rw [hx, h]))
          have hC4 := hC3.setCell (p := ⟨W.heap.size, 0, none⟩) (Nat.le_refl _) (.slice A3 (k + 1) c3)
          have hG4 := hKp.blk hG3 (fun e => blk_ne_blk hX3 hG3 (by decide) e.symm)
          have hS4 := fun x hx => hKp.blk (hS3 x hx) (fun e => blk_ne_blk hX3 (hS3 x hx) (by decide) e.symm)
          simp at hX4
          generalize w3.setCell ⟨W.heap.size, 0, none⟩ (.slice A3 (k + 1) c3) = w4 at *
          have HREL : Hid (NewRel W W.heap.size m (k + 1) w4) := Lib.hid ⟨Gl ++ [b], .slice A3 (k + 1) c3, by rw [List.length_append, HGL.out]; rfl, hX4, by rw [List.map_append]; exact hO4, hC4, fun x hx => by
            rcases List.mem_append.1 hx with hx | hx
            · exact ⟨hS4 x hx, (HBS.out x hx).2⟩
            · simp at hx; rw [hx]; exact ⟨hG4, HWB.out⟩, by
            rw [List.nodup_append]
            refine ⟨HND.out, by simp, fun x hx y hy e => ?_⟩
            simp at hy
            have := HNB.out x hx
            omega⟩
          clear hX4 hO4 hC4 hG4 hS4 hKp hX3 hG3 hS3 hC3 hown
          go_wp2_with fail
          exact ⟨⟨k + 1, hks, by go_num, HREL.out⟩, by simp [intOf]; omega⟩
    · obtain rfl : s = k := by omega
      go_wp2
      go_ret2
      exact ⟨rfl, Gl, v, HGL.out, HX.out, HO.out, HE.out, HBS.out, HND.out⟩
end Go.Proofs.YtophcgbddccpeaaGreat

/- What New makes; a nil receiver. -/
namespace Go.Proofs.YtophcgbddccpeaaGreat
open Go.RowKit

theorem new_buf {W w' : World} {g m s : Nat} (hg : W.heap.size ≤ g) (hs : 0 < s) (h : NewRel W g m s w') :
    ∃ gs G, BufAt w' g gs G (emptyT s m) m ∧ (∀ k, bufF g gs G s k → W.heap.size ≤ k) ∧ Below W.heap.size W w' := by
  obtain ⟨Gl, v, hl, hX, hO, hE, hbs, hnd⟩ := h
  have hlen : (emptyT s m).length = s := by simp [emptyT]
  rcases hO.2 with ⟨_, h0⟩ | ⟨gs, cap, cur, rfl, hb, hh, hc, _, _, ht⟩
  · omega
  have hget : ∀ i, i < s → (emptyT s m).getD i [] = List.replicate m en0 := fun i hi => by
    unfold emptyT
    rw [List.getD_eq_getElem?_getD, List.getElem?_replicate, if_pos hi]
    rfl
  have hGi : ∀ i, i < s → Gl.getD i 0 ∈ Gl ∧ Gl[i]? = some (Gl.getD i 0) := fun i hi => by
    rw [List.getD_eq_getElem?_getD, List.getElem?_eq_getElem (by omega)]
    exact ⟨List.getElem_mem _, rfl⟩
  refine ⟨gs, fun i => Gl.getD i 0, ⟨⟨cap, by rw [hlen]; exact hX⟩, ⟨cur, hh, fun i hi => ?_⟩, fun i hi => ?_, fun i hi => ?_, fun i j hi hj e => ?_⟩, ?_, hE⟩
  · rw [hlen] at hi
    have e : cur[i]? = (Gl.map (SlOf · m))[i]? := by
      rw [← ht, List.getElem?_take, if_pos (by omega), Array.getElem?_toList]
    rw [e, List.getElem?_map, (hGi i hi).2]
    rfl
  · rw [hlen] at hi
    rw [hget i hi]; simp
  · rw [hlen] at hi
    rw [hget i hi]
    exact (hbs _ (hGi i hi).1).1
  · rw [hlen] at hi hj
    have h1 := (hGi i hi).2
    have h2 := (hGi j hj).2
    have e' : Gl.getD i 0 = Gl.getD j 0 := e
    rw [e'] at h1
    exact (List.getElem?_inj (by omega) hnd).1 (h1.trans h2.symm)
  · rintro k (e | e | ⟨i, hi, e⟩)
    · omega
    · omega
    · rw [e]; exact (hbs _ (hGi i hi).1).2
theorem empty_valid (s m : Nat) : Valid (emptyT s m) := by
  intro l hl e he hf
  unfold emptyT at hl
  have h1 := List.eq_of_mem_replicate hl
  rw [h1] at he
  have h2 := List.eq_of_mem_replicate he
  rw [h2] at hf
  exact absurd hf (by decide)
set_option maxHeartbeats 1000000 in
theorem tlb_find_nil (va : Nat) (asid : Int) (W : World) :
    Calls Tryz.prog 77 #[.pointer none, .int .u64 va, .int .i64 asid] W (FindR none W) := by
  have hc := (Below.refl W.heap.size W).alloc (Nat.le_refl _) (.cells #[.bool false, .bool false, .bool false, .bool false, .bool false, .bool false, .bool false, .bool false, .int .i64 0, .int .u64 0, .int .i64 0, .int .u64 0] 98)
  have hX : Blk (W.alloc (.cells #[.bool false, .bool false, .bool false, .bool false, .bool false, .bool false, .bool false, .bool false, .int .i64 0, .int .u64 0, .int .i64 0, .int .u64 0] 98)) W.heap.size 98 #[.bool false, .bool false, .bool false, .bool false, .bool false, .bool false, .bool false, .bool false, .int .i64 0, .int .u64 0, .int .i64 0, .int .u64 0] := Blkf.new_at _ _ _ _ rfl
  have HC0 := Lib.hid hc
  have HX0 := Lib.hid hX
  clear hc hX
  go_enter Tryz.func77, Tryz.ntmps77
  go_wp2_with fail
  generalize W.alloc (.cells #[.bool false, .bool false, .bool false, .bool false, .bool false, .bool false, .bool false, .bool false, .int .i64 0, .int .u64 0, .int .i64 0, .int .u64 0] 98) = W0 at *
  have hZ := HX0.out
  have hW := HC0.out
  have q0_ := hZ.cell 0
  have q1_ := hZ.cell 1
  have q2_ := hZ.cell 2
  have q3_ := hZ.cell 3
  have q4_ := hZ.cell 4
  have q5_ := hZ.cell 5
  have q6_ := hZ.cell 6
  have q7_ := hZ.cell 7
  have q8_ := hZ.cell 8
  have q9_ := hZ.cell 9
  have q10_ := hZ.cell 10
  have q11_ := hZ.cell 11
  refine bodyPost_ret (v := .tuple #[.agg #[.bool false, .bool false, .bool false, .bool false, .bool false, .bool false, .bool false, .bool false, .int .i64 0, .int .u64 0, .int .i64 0, .int .u64 0], .bool false]) (by simp [results, Tryz.results77, go_sem, q0_, q1_, q2_, q3_, q4_, q5_, q6_, q7_, q8_, q9_, q10_, q11_]) rfl ?_
  exact ⟨rfl, hW⟩
theorem fill_nil (va : Nat) (asid : Int) (lf : Tf) (pick : Int) (W : World) :
    Calls Tryz.prog 79 #[.pointer none, .int .u64 va, .int .i64 asid, lf.val, .int .i64 pick] W fun e w' => e = .returned (.bool false) ∧ Below W.heap.size W w' := by
  have HC0 := Lib.hid ((Below.refl W.heap.size W).alloc (Nat.le_refl _) (.cells #[.bool lf.v, .bool lf.r, .bool lf.w, .bool lf.x, .bool lf.u, .bool lf.g, .bool lf.a, .bool lf.d, .int .i64 lf.rsw, .int .u64 lf.ppn, .int .i64 lf.lev, .int .u64 lf.pos] 98))
  unfold Tf.val
  go_enter Tryz.func79, Tryz.ntmps79
  go_wp2
  go_ret
  exact ⟨rfl, HC0.out⟩
theorem fence_nil (V A : Value) (W : World) :
    Calls Tryz.prog 49 #[.pointer none, V, A] W fun e w' => e = .returned (.int .i64 0) ∧ W = w' := by
  go_enter Tryz.func49, Tryz.ntmps49
  go_wp2
  go_ret
  exact ⟨rfl, rfl⟩
theorem list_nil (W : World) :
    Calls Tryz.prog 63 #[.pointer none] W fun e w' => e = .returned (.slice none 0 0) ∧ W = w' := by
  go_enter Tryz.func63, Tryz.ntmps63
  go_wp2
  go_ret
  exact ⟨rfl, rfl⟩
end Go.Proofs.YtophcgbddccpeaaGreat

/- The reference's buffer; at. -/
namespace Go.Proofs.YtophcgbddccpeaaGreat
open Go.RowKit

def Sl.val (x : Sl) : Value := .agg #[.int .i64 x.set, .int .i64 x.way, .int .i64 x.asid, .int .u64 x.page, .bool x.lf.v, .bool x.lf.r, .bool x.lf.w, .bool x.lf.x, .bool x.lf.u, .bool x.lf.g, .bool x.lf.a, .bool x.lf.d, .int .i64 x.lf.rsw, .int .u64 x.lf.ppn, .int .i64 x.lf.lev, .int .u64 x.lf.pos]
def Sl.cs (x : Sl) : Array Value := #[.int .i64 x.set, .int .i64 x.way, .int .i64 x.asid, .int .u64 x.page, .bool x.lf.v, .bool x.lf.r, .bool x.lf.w, .bool x.lf.x, .bool x.lf.u, .bool x.lf.g, .bool x.lf.a, .bool x.lf.d, .int .i64 x.lf.rsw, .int .u64 x.lf.ppn, .int .i64 x.lf.lev, .int .u64 x.lf.pos]
theorem cs_size (x : Sl) : x.cs.size = 16 := rfl
theorem cs_toList (x : Sl) : x.cs.toList = x.vs := rfl
theorem cs_one (x : Sl) : x.cs.all (·.oneCell') = true := Array.all_eq_true_iff_forall_mem.2 fun u hu => one_sl x u (by rw [← cs_toList]; simpa using hu)
theorem val_cs (x : Sl) : x.val = .agg x.cs := rfl
theorem slot_row (x : Sl) : rowT Tryz.prog 100 x.cs.size = true := by rw [cs_size]; kernel_rfl
def sl0 : Sl := ⟨0, 0, 0, 0, tlb_lf0⟩
/-- A slice that reads as slots. -/
def RdS (w : World) (v : Value) (L : List Sl) : Prop := ∃ A c, v = .slice A L.length c ∧ (L ≠ [] → ∃ b, A = some ⟨b, 0, none⟩ ∧ ∀ k x, L[k]? = some x → ∀ j, j < 16 → w.cell? ⟨b, k * 16 + j, none⟩ = x.vs[j]?)
theorem RdS.below {w w' : World} {v : Value} {L : List Sl} (h : RdS w v L) (hb : Below w.heap.size w w') : RdS w' v L := by
  obtain ⟨A, c, e, h⟩ := h
  refine ⟨A, c, e, fun hne => ?_⟩
  obtain ⟨b, hA, hc⟩ := h hne
  refine ⟨b, hA, fun k x hx j hj => ?_⟩
  have h1 := hc k x hx j hj
  have h2 : x.vs[j]? = some (x.vs[j]'hj) := List.getElem?_eq_getElem hj
  rw [h2] at h1 ⊢
  rw [hb.cell (cell_lt h1)]
  exact h1
theorem RdS.of_own {w : World} {base : Nat} {v : Value} {L : List Sl} (h : w.ownsRow base 100 16 v L.length (slC L)) : RdS w v L := by
  rcases h.2 with ⟨rfl, h2⟩ | ⟨g, cap, cur, rfl, hb, hh, hc, _, _, ht⟩
  · exact ⟨none, 0, by rw [h2], fun hne => absurd (List.eq_nil_of_length_eq_zero h2) hne⟩
  · refine ⟨_, _, rfl, fun _ => ⟨g, rfl, fun k x hx j hj => ?_⟩⟩
    have hlt : k < L.length := (List.getElem?_eq_some_iff.1 hx).1
    rw [cell_of_row w g (k * 16 + j) cur _ _ hh, ← slC_get L k j x hx hj, ← ht, List.getElem?_take, if_pos (by omega), Array.getElem?_toList]
def atB (s y : Int) (x : Sl) : Bool := x.set == s && x.way == y
def atS (L : List Sl) (s y : Int) : Option Sl := L.find? (atB s y)
theorem sfind_step {l : List Sl} {k : Nat} {x : Sl} {p : Sl → Bool} (hx : l[k]? = some x) (h : ∀ y ∈ l.take k, p y = false) (hp : p x = true) : l.find? p = some x := by
  have hk : k < l.length := (List.getElem?_eq_some_iff.1 hx).1
  have e : l = l.take k ++ x :: l.drop (k + 1) := by
    rw [List.getElem?_eq_getElem hk] at hx
    injection hx with hx
    rw [← hx, List.getElem_cons_drop, List.take_append_drop]
  rw [e, List.find?_append, List.find?_eq_none.2 (fun y hy => by rw [h y hy]; decide), Option.none_or, List.find?_cons, hp]
theorem sfind_none {l : List Sl} {k : Nat} {p : Sl → Bool} (hk : l.length ≤ k) (h : ∀ y ∈ l.take k, p y = false) : l.find? p = none := by
  rw [List.take_of_length_le hk] at h
  exact List.find?_eq_none.2 fun y hy => by rw [h y hy]; decide
theorem stake_more {l : List Sl} {k : Nat} {x : Sl} {p : Sl → Bool} (hx : l[k]? = some x) (h : ∀ y ∈ l.take k, p y = false) (hp : p x = false) : ∀ y ∈ l.take (k + 1), p y = false := by
  intro y hy
  rw [List.take_add_one, hx] at hy
  rcases List.mem_append.1 hy with hy | hy
  · exact h y hy
  · simp at hy; rw [hy]; exact hp
def AtR (r : Option Sl) (W : World) (e : Ending) (w' : World) : Prop :=
  e = .returned (.tuple #[(r.getD sl0).val, .bool r.isSome]) ∧ Below W.heap.size W w'
theorem RdS.range {w : World} {v : Value} {L : List Sl} (h : RdS w v L) (hne : L ≠ []) : ∃ b, v = .slice (some ⟨b, 0, none⟩) L.length (match v with | .slice _ _ c => c | _ => 0) ∧ ∀ k x, L[k]? = some x → w.rangeAt b (k * 16) x.cs.toList := by
  obtain ⟨A, c, rfl, h⟩ := h
  obtain ⟨b, rfl, hc⟩ := h hne
  refine ⟨b, rfl, fun k x hx j u hj => ?_⟩
  have hlt : j < 16 := (List.getElem?_eq_some_iff.1 hj).1
  rw [hc k x hx j hlt, ← cs_toList]
  exact hj
theorem sl0_cs : sl0.cs = #[.int .i64 0, .int .i64 0, .int .i64 0, .int .u64 0, .bool false, .bool false, .bool false, .bool false, .bool false, .bool false, .bool false, .bool false, .int .i64 0, .int .u64 0, .int .i64 0, .int .u64 0] := rfl
end Go.Proofs.YtophcgbddccpeaaGreat

/- Plain laws: what a buffer keeps; a buffer of one entry. -/
namespace Go.Proofs.YtophcgbddccpeaaGreat
open Go.RowKit

theorem fillS_length (T : List (List En)) (va : Nat) (asid : Int) (lf : Tf) (pick : Int) : (fillS T va asid lf pick).length = T.length := by simp [fillS]
theorem fenceS_length (T : List (List En)) (vo : Option Nat) (ao : Option Int) : (fenceS T vo ao).length = T.length := by simp [fenceS]
theorem valid_fill {T : List (List En)} (h : Valid T) (va : Nat) (asid : Int) (lf : Tf) (pick : Int) (hl : levOK lf.lev = true) : Valid (fillS T va asid lf pick) := by
  intro s hs e he hf
  unfold fillS at hs
  rcases List.mem_or_eq_of_mem_set hs with hs | rfl
  · exact h s hs e he hf
  · rcases List.mem_or_eq_of_mem_set he with he | rfl
    · rw [List.getD_eq_getElem?_getD] at he
      cases hg : T[fillQ T va lf]? with
      | none => rw [hg] at he; simp at he
      | some s =>
        rw [hg] at he
        exact h s (List.mem_of_getElem? hg) e he hf
    · exact hl
theorem valid_fence {T : List (List En)} (h : Valid T) (vo : Option Nat) (ao : Option Int) : Valid (fenceS T vo ao) := by
  intro s hs e he hf
  unfold fenceS at hs
  obtain ⟨s0, hs0, rfl⟩ := List.mem_map.1 hs
  obtain ⟨e0, he0, rfl⟩ := List.mem_map.1 he
  unfold fen at hf ⊢
  split
  · rename_i hg; rw [if_pos hg] at hf; exact absurd hf (by decide)
  · rename_i hg; rw [if_neg hg] at hf; exact h s0 hs0 e0 he0 hf
def oneT (q : Nat) (e : En) : List (List En) := (emptyT 4 2).set q [e, en0]
theorem four {q : Nat} (h : q < 4) : q = 0 ∨ q = 1 ∨ q = 2 ∨ q = 3 := by omega
theorem fill_one (va : Nat) (asid : Int) (lf : Tf) (pick : Int) : fillS (emptyT 4 2) va asid lf pick = oneT (pgN va lf.lev % 4) (fillE va asid lf) := by
  have hq : pgN va lf.lev % 4 < 4 := Nat.mod_lt _ (by decide)
  have e : fillQ (emptyT 4 2) va lf = pgN va lf.lev % 4 := rfl
  unfold fillS
  rw [e]
  generalize pgN va lf.lev % 4 = q at *
  rcases four hq with rfl | rfl | rfl | rfl <;> rfl
theorem hit_en0 (l : Int) (va : Nat) (a : Int) : hitB l va a en0 = false := by simp [hitB, matchB, hasB, en0]
theorem way_one (q : Nat) (e : En) (hq : q < 4) (i : Nat) (hi : i < 4) (l : Int) (va : Nat) (a : Int) : wayFind ((oneT q e).getD i []) l va a = if i = q ∧ hitB l va a e = true then some e.lf else none := by
  have h0 : wayFind [en0, en0] l va a = none := by simp [wayFind, List.find?, hit_en0]
  have h1 : wayFind [e, en0] l va a = if hitB l va a e = true then some e.lf else none := by
    unfold wayFind
    cases h : hitB l va a e <;> simp [List.find?, h, hit_en0]
  have h2 : (oneT q e).getD i [] = if i = q then [e, en0] else [en0, en0] := by
    rcases four hq with rfl | rfl | rfl | rfl <;> rcases four hi with rfl | rfl | rfl | rfl <;> rfl
  rw [h2]
  by_cases hiq : i = q
  · rw [if_pos hiq, h1]; simp [hiq]
  · rw [if_neg hiq, h0]; simp [hiq]
theorem oneT_length (q : Nat) (e : En) : (oneT q e).length = 4 := by simp [oneT, emptyT]
theorem find_one (e : En) (va : Nat) (a : Int) (hl : levOK e.lf.lev = true) (hf : e.full = true) : findS (oneT (e.page % 4) e) va a = if e.page = pgN va e.lf.lev ∧ (e.asid == a || e.lf.g) = true then some e.lf else none := by
  have hq : e.page % 4 < 4 := Nat.mod_lt _ (by decide)
  have hw : ∀ l : Int, wayFind ((oneT (e.page % 4) e).getD (pgN va l % 4) []) l va a = if pgN va l % 4 = e.page % 4 ∧ hitB l va a e = true then some e.lf else none := fun l => way_one _ _ hq _ (Nat.mod_lt _ (by decide)) _ _ _
  have hh : ∀ l : Int, (pgN va l % 4 = e.page % 4 ∧ hitB l va a e = true) ↔ (e.lf.lev = l ∧ e.page = pgN va e.lf.lev ∧ (e.asid == a || e.lf.g) = true) := fun l => by
    simp only [hitB, matchB, hasB, hf, Bool.true_and, Bool.and_eq_true, beq_iff_eq]
    constructor
    · rintro ⟨_, h1, h2, h3⟩; exact ⟨h1, h2, h3⟩
    · rintro ⟨h1, h2, h3⟩; exact ⟨by rw [← h1, ← h2], h1, h2, h3⟩
  unfold findS
  rw [oneT_length, hw, hw, hw]
  simp only [hh]
  by_cases hc : e.page = pgN va e.lf.lev ∧ (e.asid == a || e.lf.g) = true
  · rw [if_pos hc]
    simp only [eq_true hc, and_true]
    rcases lev_cases hl with h | h | h <;> simp [h]
  · rw [if_neg hc]
    simp only [eq_false hc, and_false, if_false]
    rfl
theorem fen_en0 (vo : Option Nat) (ao : Option Int) : fen vo ao en0 = en0 := by unfold fen; split <;> rfl
theorem goes_en0 (vo : Option Nat) (ao : Option Int) : goesB en0 vo ao = false := by simp [goesB, en0]
theorem fence_one (q : Nat) (e : En) (hq : q < 4) (vo : Option Nat) (ao : Option Int) : fenceS (oneT q e) vo ao = oneT q (fen vo ao e) := by
  rcases four hq with rfl | rfl | rfl | rfl <;> simp [fenceS, oneT, emptyT, List.replicate, fen_en0]
theorem count_one (q : Nat) (e : En) (hq : q < 4) (vo : Option Nat) (ao : Option Int) : fenceN (oneT q e) vo ao = if goesB e vo ao then 1 else 0 := by
  rcases four hq with rfl | rfl | rfl | rfl <;> simp [fenceN, cntW, oneT, emptyT, List.replicate, List.countP_cons, goes_en0]
theorem one_en0 (q : Nat) : oneT q en0 = emptyT 4 2 := by
  unfold oneT
  rcases Nat.lt_or_ge q 4 with h | h
  · rcases four h with rfl | rfl | rfl | rfl <;> rfl
  · exact List.set_eq_of_length_le (by simpa [emptyT] using h)
theorem find_empty (va : Nat) (a : Int) : findS (emptyT 4 2) va a = none := by
  refine find_all fun l _ => ?_
  have h : ∀ i, i < 4 → (emptyT 4 2).getD i [] = [en0, en0] := fun i hi => by rcases four hi with rfl | rfl | rfl | rfl <;> rfl
  rw [show (emptyT 4 2).length = 4 from rfl, h _ (Nat.mod_lt _ (by decide))]
  simp [wayFind, List.find?, hit_en0]
theorem list_empty : listT 0 (emptyT 4 2) = [] := rfl
theorem i64_xor1 (a : Int) (h : -9223372036854775808 ≤ a ∧ a < 9223372036854775808) : bits .xor .i64 a 1 ≠ a := by
  show IntKind.i64.wrap ((BitVec.ofInt 64 a ^^^ BitVec.ofInt 64 1).toNat : Int) ≠ a
  intro e
  have h1 : (BitVec.ofInt 64 a ^^^ BitVec.ofInt 64 1).toNat % 18446744073709551616 = (a % 18446744073709551616).toNat := by
    have hlt := (BitVec.ofInt 64 a ^^^ BitVec.ofInt 64 1).isLt
    rw [IntKind.wrap_i64] at e
    omega
  have h2 : BitVec.ofInt 64 a ^^^ BitVec.ofInt 64 1 = BitVec.ofInt 64 a := by
    apply BitVec.eq_of_toNat_eq
    have hlt := (BitVec.ofInt 64 a ^^^ BitVec.ofInt 64 1).isLt
    rw [BitVec.toNat_ofInt]
    rw [Nat.mod_eq_of_lt hlt] at h1
    exact h1
  have h3 : BitVec.ofInt 64 1 = 0#64 := by
    have := congrArg (BitVec.ofInt 64 a ^^^ ·) h2
    simp only [← BitVec.xor_assoc, BitVec.xor_self, BitVec.zero_xor] at this
    exact this
  exact absurd h3 (by decide)
theorem i64_xor_lt (a : Int) : -9223372036854775808 ≤ bits .xor .i64 a 1 ∧ bits .xor .i64 a 1 < 9223372036854775808 := by
  show -9223372036854775808 ≤ IntKind.i64.wrap ((BitVec.ofInt 64 a ^^^ BitVec.ofInt 64 1).toNat : Int) ∧ IntKind.i64.wrap ((BitVec.ofInt 64 a ^^^ BitVec.ofInt 64 1).toNat : Int) < 9223372036854775808
  rw [IntKind.wrap_i64]
  omega
/-- The bytes of a page of a level. -/
def spanN (lev : Int) : Nat := 4096 * 2 ^ (9 * lev.toNat)
def inN (va other : Nat) (lev : Int) : Nat := va - va % spanN lev + other % spanN lev
theorem in_page (va other : Nat) (lev : Int) (hv : va < 18446744073709551616) (hl : levOK lev = true) : pgN (inN va other lev) lev = pgN va lev ∧ inN va other lev < 18446744073709551616 := by
  rcases lev_cases hl with rfl | rfl | rfl
  · simp [inN, spanN, pgN, vpnV]; omega
  · simp [inN, spanN, pgN, vpnV]; omega
  · simp [inN, spanN, pgN, vpnV]; omega
/-- What holds of a buffer of one entry. -/
structure Held (inn : Nat) (asid a' : Int) (l : Tf) (T : List (List En)) : Prop where
  len : T.length = 4
  val : Valid T
  f2 : findS T inn asid = some l
  f3 : findS T inn a' = if l.g then some l else none
  n1 : fenceN T (some inn) (some a') = 0
  t1 : fenceS T (some inn) (some a') = T
  n2 : fenceN T (some inn) none = 1
  t2 : fenceS T (some inn) none = emptyT 4 2
theorem held_fill (va other : Nat) (asid a' : Int) (l : Tf) (pick : Int) (hv : va < 18446744073709551616) (hl : levOK l.lev = true) (ha : a' ≠ asid) : Held (inN va other l.lev) asid a' l (fillS (emptyT 4 2) va asid l pick) := by
  obtain ⟨hp, _⟩ := in_page va other l.lev hv hl
  have hval : Valid (fillS (emptyT 4 2) va asid l pick) := valid_fill (empty_valid 4 2) _ _ _ _ hl
  have hq : pgN va l.lev % 4 < 4 := Nat.mod_lt _ (by decide)
  rw [fill_one] at hval ⊢
  have g1 : goesB (fillE va asid l) (some (inN va other l.lev)) (some a') = false := by
    have : (asid == a') = false := beq_eq_false_iff_ne.2 (fun h => ha h.symm)
    simp [goesB, asOK, fillE, this]
  have g2 : goesB (fillE va asid l) (some (inN va other l.lev)) none = true := by simp [goesB, vaOK, asOK, hasB, fillE, hp]
  refine ⟨oneT_length _ _, hval, ?_, ?_, ?_, ?_, ?_, ?_⟩
  · have := find_one (fillE va asid l) (inN va other l.lev) asid hl rfl
    rw [show (fillE va asid l).page = pgN va l.lev from rfl] at this
    rw [this, if_pos ⟨by rw [show (fillE va asid l).lf.lev = l.lev from rfl, hp], by simp [fillE]⟩]
    rfl
  · have := find_one (fillE va asid l) (inN va other l.lev) a' hl rfl
    rw [show (fillE va asid l).page = pgN va l.lev from rfl] at this
    rw [this]
    have h1 : (asid == a') = false := beq_eq_false_iff_ne.2 (fun h => ha h.symm)
    simp [fillE, hp, h1]
  · rw [count_one _ _ hq, g1]; rfl
  · rw [fence_one _ _ hq]
    unfold fen
    rw [g1]; rfl
  · rw [count_one _ _ hq, g2]; rfl
  · rw [fence_one _ _ hq]
    unfold fen
    rw [g2, if_pos rfl, one_en0]
/-- The address, as the walk reckons it. -/
theorem in_steps (va other : Nat) (lev : Int) (hv : va < 18446744073709551616) (hl : levOK lev = true) : ∃ sp p q s : Nat, 0 < sp ∧ IntKind.u64.wrap (4096 * 2 ^ (9 * lev).toNat) = (sp : Int) ∧ (va : Int).tmod (sp : Int) = (p : Int) ∧ (other : Int).tmod (sp : Int) = (q : Int) ∧ IntKind.u64.wrap ((va : Int) - p) = (s : Int) ∧ IntKind.u64.wrap ((s : Int) + q) = (inN va other lev : Int) := by
  have hi := (in_page va other lev hv hl).2
  unfold inN at hi ⊢
  refine ⟨spanN lev, va % spanN lev, other % spanN lev, va - va % spanN lev, ?_, ?_, ?_, ?_, ?_, ?_⟩
  · rcases lev_cases hl with rfl | rfl | rfl <;> decide
  · rcases lev_cases hl with rfl | rfl | rfl <;> rfl
  · rw [Int.tmod_eq_emod_of_nonneg (by omega)]; simp
  · rw [Int.tmod_eq_emod_of_nonneg (by omega)]; simp
  · have := Nat.mod_le va (spanN lev)
    rw [IntKind.wrap_u64]; omega
  · rw [IntKind.wrap_u64]; omega
end Go.Proofs.YtophcgbddccpeaaGreat

/- Two leaves, two slots: the same? -/
namespace Go.Proofs.YtophcgbddccpeaaGreat
open Go.RowKit Go.ChangeShapes

def tlb_LfWf (l : Tf) : Prop := (Lit.int .i64 l.rsw).wf = true ∧ (Lit.int .u64 l.ppn).wf = true ∧ (Lit.int .i64 l.lev).wf = true ∧ (Lit.int .u64 l.pos).wf = true
def Tf.cs (l : Tf) : Array Value := #[.bool l.v, .bool l.r, .bool l.w, .bool l.x, .bool l.u, .bool l.g, .bool l.a, .bool l.d, .int .i64 l.rsw, .int .u64 l.ppn, .int .i64 l.lev, .int .u64 l.pos]
theorem tlb_lcs_size (l : Tf) : l.cs.size = 12 := rfl
theorem tlb_lcs_toList (l : Tf) : l.cs.toList = l.vs := rfl
theorem tlb_lval_cs (l : Tf) : l.val = .agg l.cs := rfl
theorem tlb_one_lf (x : Tf) : ∀ u ∈ x.vs, u.oneCell' = true := by
  intro u hu
  simp [Tf.vs] at hu
  rcases hu with rfl | rfl | rfl | rfl | rfl | rfl | rfl | rfl | rfl | rfl | rfl | rfl <;> rfl
theorem tlb_lcs_one (l : Tf) : l.cs.all (·.oneCell') = true := Array.all_eq_true_iff_forall_mem.2 fun u hu => tlb_one_lf l u (by rw [← tlb_lcs_toList]; simpa using hu)
theorem tlb_leaf_row (l : Tf) : rowT Tryz.prog 98 l.cs.size = true := by rw [tlb_lcs_size]; kernel_rfl
def Tf.lits (l : Tf) : List Lit := [.bool l.v, .bool l.r, .bool l.w, .bool l.x, .bool l.u, .bool l.g, .bool l.a, .bool l.d, .int .i64 l.rsw, .int .u64 l.ppn, .int .i64 l.lev, .int .u64 l.pos]
theorem tlb_lits_inj (a b : Tf) : a.lits = b.lits ↔ a = b := by
  constructor
  · intro h
    cases a; cases b
    simp only [Tf.lits, List.cons.injEq, Lit.bool.injEq, Lit.int.injEq, true_and, and_true] at h
    obtain ⟨h1, h2, h3, h4, h5, h6, h7, h8, h9, h10, h11, h12⟩ := h
    simp only [Tf.mk.injEq]
    exact ⟨h1, h2, h3, h4, h5, h6, h7, h8, h9, by omega, h11, by omega⟩
  · rintro rfl; rfl
theorem tlb_key_pte (d : Nat) (l : Tf) (h : tlb_LfWf l) : Tryz.prog.keyLits (d + 2) 96 [.bool l.v, .bool l.r, .bool l.w, .bool l.x, .bool l.u, .bool l.g, .bool l.a, .bool l.d, .int .i64 l.rsw, .int .u64 l.ppn] = some [.bool l.v, .bool l.r, .bool l.w, .bool l.x, .bool l.u, .bool l.g, .bool l.a, .bool l.d, .int .i64 l.rsw, .int .u64 l.ppn] := by
  obtain ⟨h1, h2, h3, h4⟩ := h
  unfold Program.keyLits
  simp [Tryz.underlying96, c_pte, c_int, c_u64, c_bool, key_int, key_u64, key_bool, h1, h2]
theorem tlb_key_leaf (d : Nat) (l : Tf) (h : tlb_LfWf l) : Tryz.prog.keyLits (d + 3) 98 l.vs = some l.lits := by
  have hp := tlb_key_pte d l h
  obtain ⟨h1, h2, h3, h4⟩ := h
  unfold Program.keyLits Tf.vs Tf.lits
  simp [Tryz.underlying98, c_leaf, c_pte, c_int, c_u64, key_int, key_u64, hp, h3, h4]
theorem tlb_leaf_eq (W : World) (a b : Tf) (ha : tlb_LfWf a) (hb : tlb_LfWf b) : ∃ r : Bool, (Op.equalIn 10000 98 (.agg a.cs) (.agg b.cs)).run Tryz.prog W = .ok r W ∧ (r = true ↔ a = b) := by
  have h := run_equalIn_deep (P := Tryz.prog) 9995 5 98 (by kernel_rfl)
  obtain ⟨r, hr, hi⟩ := h W 5 5 _ _ _ _ (by kernel_rfl : (Value.agg a.cs).formed Tryz.prog 98 = true) (by kernel_rfl : (Value.agg b.cs).formed Tryz.prog 98 = true) (tlb_key_leaf 2 a ha) (tlb_key_leaf 2 b hb)
  exact ⟨r, hr, hi.trans (tlb_lits_inj a b)⟩
theorem tlb_leaf_same (W : World) (a : Tf) (ha : tlb_LfWf a) : (Op.equalIn 10000 98 (.agg a.cs) (.agg a.cs)).run Tryz.prog W = .ok true W := by
  obtain ⟨r, hr, hi⟩ := tlb_leaf_eq W a a ha ha
  rw [hi.2 rfl] at hr
  exact hr
end Go.Proofs.YtophcgbddccpeaaGreat

/- What must be answered ahead of everything else. -/
namespace Go.Proofs.YtophcgbddccpeaaGreat
open Go.RowKit

theorem BufAt.lt {w : World} {g gs : Nat} {G : Nat → Nat} {T : List (List En)} {m : Nat} (h : BufAt w g gs G T m) : ∀ k, bufF g gs G T.length k → k < w.heap.size := by
  rintro k (rfl | rfl | ⟨i, hi, rfl⟩)
  · obtain ⟨c, hc⟩ := h.head; exact hc.lt
  · obtain ⟨cur, ho, _⟩ := h.outer; exact ho.lt
  · exact (h.inner i hi).lt
section
variable {W w w' : World} {g gs : Nat} {G : Nat → Nat} {T T' : List (List En)} {m : Nat} {L : List (Nat × TypeId × Array Value)}
end
theorem find_yes (g gs : Nat) (G : Nat → Nat) (T : List (List En)) (m : Nat) (va : Nat) (asid : Int) (l : Tf) (W : World) (hv : va < 18446744073709551616) (hn : 0 < T.length) (hn2 : T.length ≤ 64) (hm : m ≤ 8) (hB : BufAt W g gs G T m) (hval : Valid T) (hf : findS T va asid = some l) :
    Calls Tryz.prog 77 #[.pointer (some ⟨g, 0, none⟩), .int .u64 va, .int .i64 asid] W fun e w' => e = .returned (.tuple #[.agg l.cs, .bool true]) ∧ Below W.heap.size W w' :=
  (tlb_find_any g gs G T m va asid W hv hn hn2 hm hB hval).mono fun e w' ⟨h1, h2⟩ => ⟨by rw [h1, hf]; rfl, h2⟩
theorem find_not (g gs : Nat) (G : Nat → Nat) (T : List (List En)) (m : Nat) (va : Nat) (asid : Int) (W : World) (hv : va < 18446744073709551616) (hn : 0 < T.length) (hn2 : T.length ≤ 64) (hm : m ≤ 8) (hB : BufAt W g gs G T m) (hval : Valid T) (hf : findS T va asid = none) :
    Calls Tryz.prog 77 #[.pointer (some ⟨g, 0, none⟩), .int .u64 va, .int .i64 asid] W fun e w' => e = .returned (.tuple #[.agg tlb_lf0.cs, .bool false]) ∧ Below W.heap.size W w' :=
  (tlb_find_any g gs G T m va asid W hv hn hn2 hm hB hval).mono fun e w' ⟨h1, h2⟩ => ⟨by rw [h1, hf]; rfl, h2⟩
def x1 : Tf := ⟨true, true, false, false, false, false, false, false, 0, 7, 0, 0⟩
def y1 : Tf := ⟨true, true, false, false, false, false, false, false, 0, 512, 1, 0⟩
theorem x1_wf : tlb_LfWf x1 := by unfold tlb_LfWf; decide
theorem y1_wf : tlb_LfWf y1 := by unfold tlb_LfWf; decide
def T1 : List (List En) := fillS (emptyT 2 1) 4096 3 x1 0
def T2 : List (List En) := fillS T1 1073741824 3 y1 0
def T3 : List (List En) := fenceS T2 (some 1074934870) none
def T4 : List (List En) := fenceS T3 none none
theorem v1 : Valid T1 := valid_fill (empty_valid 2 1) _ _ _ _ (by decide)
theorem v2 : Valid T2 := valid_fill v1 _ _ _ _ (by decide)
theorem v3 : Valid T3 := valid_fence v2 _ _
theorem f1 : findS T2 8191 3 = some x1 := by rfl
theorem f2 : findS T2 1075838975 3 = some y1 := by rfl
theorem f3 : findS T2 4096 4 = none := by rfl
theorem f4 : (listT 0 T2).length = 2 := by rfl
theorem f5 : fenceN T2 (some 1074934870) none = 1 := by rfl
theorem f6 : fenceN T3 none none = 1 := by rfl
end Go.Proofs.YtophcgbddccpeaaGreat
