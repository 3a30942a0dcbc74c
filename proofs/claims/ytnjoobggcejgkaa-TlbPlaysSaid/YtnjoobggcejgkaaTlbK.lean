/- New. -/
import Derived.Test.YtnjoobggcejgkaaTlbJ
import Derived.Test.YtnjoobggcejgkaaPlanT
namespace Go.Proofs.Ytnjoobggcejgkaa
open Go.RowKit

def powB (s : Int) : Bool := s == 1 || s == 2 || s == 4 || s == 8 || s == 16 || s == 32 || s == 64
def rightS (s m : Int) : Bool := powB s && (decide (1 ≤ m) && decide (m ≤ 8))
theorem pow_and : ∀ s : Fin 65, 1 ≤ s.val → (bits .and .i64 (s.val : Int) ((s.val : Int) - 1) == 0) = powB (s.val : Int) := by decide +kernel
theorem pow_not {s : Int} (h : s < 1 ∨ 64 < s) : powB s = false := by
  unfold powB
  simp
  omega
def emptyT (n m : Nat) : List (List En) := List.replicate n (List.replicate m en0)
theorem waysC_zero : ∀ m : Nat, waysC (List.replicate m en0) = (List.replicate m en0.vs).flatten
  | 0 => rfl
  | m + 1 => by
    show en0.vs ++ waysC (List.replicate m en0) = _
    rw [waysC_zero m, List.replicate_succ, List.flatten_cons]
theorem info_way : (Try.prog.info? 59).map (fun i => (i.zero, i.size, i.bytes)) = some (some (.agg #[.bool false, .int .i64 0, .int .u64 0, .bool false, .bool false, .bool false, .bool false, .bool false, .bool false, .bool false, .bool false, .int .i64 0, .int .u64 0, .int .i64 0, .int .u64 0]), 15, 64) := by kernel_rfl
theorem made_ways (m : Nat) (h1 : 1 ≤ m) (h2 : m ≤ 8) : madeCells (#[.bool false, .int .i64 0, .int .u64 0, .bool false, .bool false, .bool false, .bool false, .bool false, .bool false, .bool false, .bool false, .int .i64 0, .int .u64 0, .int .i64 0, .int .u64 0] : Array Value) (m * 15) = (waysC (List.replicate m en0)).toArray := by
  rcases (show m = 1 ∨ m = 2 ∨ m = 3 ∨ m = 4 ∨ m = 5 ∨ m = 6 ∨ m = 7 ∨ m = 8 by omega) with rfl | rfl | rfl | rfl | rfl | rfl | rfl | rfl <;> kernel_rfl
theorem own_below {w w' : World} {base : Nat} {e : TypeId} {size : Nat} {v : Value} {n : Nat} {xs : List Value} (h : w.ownsRow base e size v n xs) (hb : Below w.heap.size w w') : w'.ownsRow base e size v n xs := by
  rcases h.2 with h2 | ⟨g, cap, cur, hv, hbg, hh, r⟩
  · exact ⟨h.1, .inl h2⟩
  · exact ⟨h.1, .inr ⟨g, cap, cur, hv, hbg, (hb.block g (by
      rcases Nat.lt_or_ge g w.heap.size with hlt | hge
      · exact hlt
      · rw [Array.getElem?_eq_none hge] at hh; cases hh)).trans hh, r⟩⟩
theorem below_grown {w wr w' : World} {base : Nat} {e : TypeId} {size : Nat} {v : Value} {n : Nat} {xs : List Value} (h : wr.ownsRow base e size v n xs) (hb : Below base w wr) (hg : wr.grownBy w' v.ownBlock) (hB : base ≤ wr.heap.size) : Below base w w' :=
  hb.grown hg hB (fun g hg => (h.lt g hg).1)
def SlOf (b m : Nat) : Value := .slice (some ⟨b, 0, none⟩) m m
/-- What holds behind k rounds. -/
def NewRel (W : World) (g m k : Nat) (wr : World) : Prop :=
  ∃ (Gl : List Nat) (v : Value), Gl.length = k ∧ Blk wr g 54 #[v] ∧ wr.ownsRow W.heap.size 55 1 v k (Gl.map (SlOf · m)) ∧ Below W.heap.size W wr ∧
    (∀ b ∈ Gl, Blk wr b 59 (waysC (List.replicate m en0)).toArray ∧ W.heap.size ≤ b) ∧ Gl.Nodup
theorem info_row : (Try.prog.info? 55).map (fun i => (i.zero, i.size, i.bytes)) = some (some (.slice none 0 0), 1, 24) := by kernel_rfl
set_option maxHeartbeats 4000000 in
theorem new_no (s m : Int) (W : World) (h : rightS s m = false) :
    Calls Try.prog 6 #[.int .i64 s, .int .i64 m] W fun e w' => e = .returned (.tuple #[.pointer none, .int .i64 2]) ∧ W = w' := by
  by_cases h1 : s < 1
  · go_enter Try.func6, Try.ntmps6
    go_wp2
    go_ret2
    exact ⟨rfl, rfl⟩
  by_cases h2 : 64 < s
  · go_enter Try.func6, Try.ntmps6
    go_wp2
    go_ret2
    exact ⟨rfl, rfl⟩
  obtain ⟨s, rfl⟩ := Int.eq_ofNat_of_zero_le (show 0 ≤ s by omega)
  have hp := pow_and ⟨s, by omega⟩ (by simp; omega)
  simp only at hp
  have hw : wrap64 ((s : Int) - 1) = (s : Int) - 1 := by unfold wrap64; omega
  cases hps : powB (s : Int)
  · rw [hps] at hp
    have hp2 : (bits .and .i64 (s : Int) ((s : Int) - 1) != 0) = true := by rw [bne, hp]; rfl
    clear hp hps h
    go_enter Try.func6, Try.ntmps6
    go_wp2
    go_ret2
    exact ⟨rfl, rfl⟩
  · rw [hps] at hp
    have hp2 : (bits .and .i64 (s : Int) ((s : Int) - 1) != 0) = false := by rw [bne, hp]; rfl
    have hm : m < 1 ∨ (¬ m < 1 ∧ 8 < m) := by
      unfold rightS at h
      rw [hps] at h
      simp at h
      omega
    clear hp hps h
    rcases hm with hm | ⟨hm, hm'⟩
    · go_enter Try.func6, Try.ntmps6
      go_wp2
      go_ret2
      exact ⟨rfl, rfl⟩
    · go_enter Try.func6, Try.ntmps6
      go_wp2
      go_ret2
      exact ⟨rfl, rfl⟩
set_option maxHeartbeats 4000000 in
theorem new_yes (s m : Nat) (W : World) (h : rightS s m = true) :
    Calls Try.prog 6 #[.int .i64 s, .int .i64 m] W fun e w' => e = .returned (.tuple #[.pointer (some ⟨W.heap.size, 0, none⟩), .int .i64 0]) ∧ NewRel W W.heap.size m s w' := by
  obtain ⟨i0, hi0, hz0, hz1, hz2⟩ := info_parts info_row
  have hb : 1 ≤ s ∧ s ≤ 64 ∧ 1 ≤ m ∧ m ≤ 8 ∧ powB s = true := by
    unfold rightS at h
    simp only [Bool.and_eq_true, decide_eq_true_eq] at h
    have h2 := h.1
    unfold powB at h2
    simp at h2
    exact ⟨by omega, by omega, by omega, by omega, h.1⟩
  obtain ⟨hs1, hs2, hm1, hm2, hps⟩ := hb
  have hmk : ∀ W, (Instr.makeSlice 55 (.int .i64 (m : Int)) (.int .i64 (m : Int))).run Try.prog W = .ok (.slice (some ⟨W.heap.size, 0, none⟩) m m) (W.alloc (.cells (waysC (List.replicate m en0)).toArray 59)) := fun W => by
    obtain ⟨i1, hi1, hy0, hy1, hy2⟩ := info_parts info_way
    have h := run_make (P := Try.prog) W 55 59 i1 _ Try.underlying55 hi1 hy0 .i64 .i64 (m : Int) (m : Int) (by omega) (by omega) (by rw [hy2]; omega) (by omega)
    rw [hy1] at h
    simp only [Int.toNat_natCast] at h
    rw [h]
    congr 3
    exact made_ways m hm1 hm2
  have hp := pow_and ⟨s, by omega⟩ (by simp; omega)
  simp only at hp
  rw [hps] at hp
  have hp2 : (bits .and .i64 (s : Int) ((s : Int) - 1) != 0) = false := by rw [bne, hp]; rfl
  clear hp hps h
  go_enter Try.func6, Try.ntmps6
  go_wp2_with fail
  go_loopw [31] (fun i wr => ∃ k : Nat, k ≤ s ∧ i = .int .i64 k ∧ NewRel W W.heap.size m k wr) (fun i _ => s - (intOf i).toNat)
  case atStart => exact ⟨0, by omega, rfl, [], .slice none 0 0, rfl, Blkf.new_at _ _ _ _ rfl, World.ownsRow_nil _ _ _ _, (Below.refl _ W).alloc (Nat.le_refl _) _, fun b hb => by simp at hb, List.nodup_nil⟩
  case round =>
    obtain ⟨k, hk, rfl, Gl, v, hgl, hX, hO, hE, hbs, hnd⟩ := hrel
    have HX := Lib.hid hX
    have HO := Lib.hid hO
    have HE := Lib.hid hE
    have HBS := Lib.hid hbs
    have HND := Lib.hid hnd
    have HGL := Lib.hid hgl
    clear hX hO hE hbs hnd hgl
    by_cases hks : k < s
    · go_wp2_with fail
      refine wp_region_pt (fun _ _ => True) ⟨fun _ => trivial, fun _ _ => trivial⟩ (PT.steps [0, 1, 2, 3, 5] (.fork 4 (.turn 6 (.turn 7 (.turn 8 (PT.steps [9, 10] (.turn 11 .done))))) 6 (.fork 4 (.turn 7 (.turn 8 (PT.steps [9, 10] (.turn 11 .done)))) 7 (.turn 4 (.turn 8 (PT.steps [9, 10] (.turn 11 .done))))))) (by kernel_rfl) (by kernel_rfl) (fun _ d _ _ _ h => by cases d <;> exact h) ?_
      unfold PT.steps
      iterate 5 (refine pt_take (v := ?_) rfl (by kernel_rfl) ?_ ?_; rotate_left; (focus (intro w' hw'; try go_simp; try with_reducible rfl)); simp only [Act.put, List.setIfInBounds_toArray, List.set_cons_zero, List.set_cons_succ])
      refine pt_fork ?_ ?_
      focus
        have t0 := (HX.out.drew).cell 0
        simp at t0
        refine pt_op (R := fun _ _ => True) rfl (by kernel_rfl) (fun K hK => ?_)
        go_simp
        refine hK _ _ ⟨trivial, ?_⟩
        clear hK K
        try simp only [Act.put, List.setIfInBounds_toArray, List.set_cons_zero, List.set_cons_succ]
        clear t0
        refine pt_turn ?_
        refine pt_op (R := fun _ _ => True) rfl (by kernel_rfl) (fun K hK => ?_)
        go_simp
        refine hK _ _ ⟨trivial, ?_⟩
        clear hK K
        try simp only [Act.put, List.setIfInBounds_toArray, List.set_cons_zero, List.set_cons_succ]
        obtain ⟨b, hb⟩ : ∃ b, b = wr.heap.size := ⟨_, rfl⟩
        have hE1 := (Below.refl wr.drew.heap.size wr.drew).alloc (Nat.le_refl _) (.cells (waysC (List.replicate m en0)).toArray 59)
        have hG1 : Blk (wr.drew.alloc (.cells (waysC (List.replicate m en0)).toArray 59)) b 59 (waysC (List.replicate m en0)).toArray := Blkf.new_at _ _ _ _ hb
        have HWB : Hid (W.heap.size ≤ b) := Lib.hid (by rw [hb]; exact HE.out.size)
        have HNB : Hid (∀ x ∈ Gl, x < b) := Lib.hid (fun x hx => by rw [hb]; exact (HBS.out x hx).1.lt)
        have hX1 := HX.out.drew.below hE1 HX.out.lt
        have hO1 := own_below HO.out.drew hE1
        have hC1 := HE.out.drew.trans (hE1.mono HE.out.size)
        have hS1 : ∀ x ∈ Gl, Blk (wr.drew.alloc (.cells (waysC (List.replicate m en0)).toArray 59)) x 59 (waysC (List.replicate m en0)).toArray := fun x hx => (HBS.out x hx).1.drew.below hE1 (HBS.out x hx).1.lt
        refine (show wpPT _ _ _ _ _ _ (wr.drew.alloc (.cells (waysC (List.replicate m en0)).toArray 59)) from ?_)
        rw [← hb]
        generalize wr.drew.alloc (.cells (waysC (List.replicate m en0)).toArray 59) = w1 at *
        clear hE1 hb
        refine pt_turn ?_
        refine pt_op (R := fun _ _ => True) rfl (by kernel_rfl) (fun K hK => ?_)
        go_simp
        refine hK _ _ ⟨trivial, ?_⟩
        clear hK K
        try simp only [Act.put, List.setIfInBounds_toArray, List.set_cons_zero, List.set_cons_succ]
        have hE2 := (Below.refl w1.heap.size w1).alloc (Nat.le_refl _) (.cells #[SlOf b m] 55)
        have hR2 : Reads (w1.alloc (.cells #[SlOf b m] 55)) (w1.heap.size + 1) 1 (some ⟨w1.heap.size, 0, none⟩) 1 [SlOf b m] := ⟨rfl, fun _ => ⟨_, rfl, Nat.lt_succ_self _, fun j u hj => by
          match j, hj with
          | 0, hj => exact ((Blkf.new_at w1 55 (0, 0) #[SlOf b m] rfl).cell 0).trans hj
          | j + 1, hj => simp at hj⟩⟩
        have hX2 := hX1.below hE2 hX1.lt
        have hO2 := own_below hO1 hE2
        have hC2 := hC1.trans (hE2.mono hC1.size)
        have hG2 := hG1.below hE2 hG1.lt
        have hS2 := fun x hx => (hS1 x hx).below hE2 (hS1 x hx).lt
        obtain ⟨g2, hg2⟩ : ∃ g, g = w1.heap.size := ⟨_, rfl⟩
        refine (show wpPT _ _ _ _ _ _ (w1.alloc (.cells #[SlOf b m] 55)) from ?_)
        rw [← hg2] at hR2 ⊢
        have hsz2 : g2 + 1 = (w1.alloc (.cells #[SlOf b m] 55)).heap.size := by rw [hg2]; simp
        generalize w1.alloc (.cells #[SlOf b m] 55) = w2 at *
        clear hE2 hX1 hO1 hC1 hG1 hS1 hg2
        refine pt_turn ?_
        refine pt_op (R := fun _ _ => True) rfl (by kernel_rfl) (fun K hK => ?_)
        refine wp_append_any _ (.tmp 37) (.tmp 40) _ rfl W.heap.size 55 i0 _ 1 24 Try.underlying52 hi0 hz0 hz1 hz2 rfl (by decide) v k (Gl.map (SlOf · m)) rfl hO2 (g2 + 1) (some ⟨g2, 0, none⟩) 1 1 [SlOf b m] rfl hR2 (fun u hu => by simp at hu; subst hu; rfl) (by unfold maxLen; omega) (by omega) hC2.size ?_
        intro v3 w3 hown hgrow _
        obtain ⟨A3, c3, rfl⟩ := row_form hown
        have hX3 := hX2.grown hgrow (fun e => row_ne_blk hO2 hX2 (by decide) e.symm)
        have hG3 := hG2.grown hgrow (fun e => row_ne_blk hO2 hG2 (by decide) e.symm)
        have hS3 := fun x hx => (hS2 x hx).grown hgrow (fun e => row_ne_blk hO2 (hS2 x hx) (by decide) e.symm)
        have hC3 := below_grown hO2 hC2 hgrow hC2.size
        refine hK _ _ ⟨trivial, ?_⟩
        clear hK K
        simp only [Act.put, List.setIfInBounds_toArray, List.set_cons_zero, List.set_cons_succ]
        clear hX2 hG2 hS2 hC2 hO2 hR2 hsz2 hgrow
        iterate 2 (refine pt_take (v := ?_) rfl (by kernel_rfl) ?_ ?_; rotate_left; (focus (intro w' hw'; try go_simp; try with_reducible rfl)); simp only [Act.put, List.setIfInBounds_toArray, List.set_cons_zero, List.set_cons_succ])
        have z0 := hX3.cell 0
        have zl := hX3.lt
        have zf := fun i => hX3.frozen i
        simp at z0
        refine pt_turn ?_
        refine pt_op (R := fun _ _ => True) rfl (by kernel_rfl) (fun K hK => ?_)
        go_simp
        refine hK _ _ ⟨trivial, ?_⟩
        clear hK K z0 zl zf
        refine pt_end ?_
        have hKp := (Keeps.refl (fun x => x = W.heap.size) w3).setCell (p := ⟨W.heap.size, 0, none⟩) (.inl rfl) (.slice A3 (k + 1) c3)
        have hX4 := hX3.set_ 0 (.slice A3 (k + 1) c3)
        have hO4 := hKp.row hown (fun x hx h => row_ne_blk hown hX3 (by decide) (by rw [hx, h]))
        have hC4 := hC3.setCell (p := ⟨W.heap.size, 0, none⟩) (Nat.le_refl _) (.slice A3 (k + 1) c3)
        have hG4 := hKp.blk hG3 (fun e => blk_ne_blk hX3 hG3 (by decide) e.symm)
        have hS4 := fun x hx => hKp.blk (hS3 x hx) (fun e => blk_ne_blk hX3 (hS3 x hx) (by decide) e.symm)
        simp at hX4
        generalize w3.setCell ⟨W.heap.size, 0, none⟩ (.slice A3 (k + 1) c3) = w4 at *
        have HREL : Hid (NewRel W W.heap.size m (k + 1) w4) := Lib.hid ⟨Gl ++ [b], .slice A3 (k + 1) c3, by rw [List.length_append, HGL.out]; rfl, hX4, by rw [List.map_append]; exact hO4, hC4, fun x hx => by
          rcases List.mem_append.1 hx with hx | hx
          · exact ⟨hS4 x hx, (HBS.out x hx).2⟩
          · simp at hx; rw [hx]; exact ⟨hG4, HWB.out⟩, by
          rw [List.nodup_append]
          refine ⟨HND.out, by simp, fun x hx y hy e => ?_⟩
          simp at hy
          have := HNB.out x hx
          omega⟩
        clear hX4 hO4 hC4 hG4 hS4 hKp hX3 hG3 hS3 hC3 hown
        go_wp2_with fail
        exact ⟨⟨k + 1, hks, by go_num, HREL.out⟩, by simp [intOf]; omega⟩
      focus
        refine pt_op (R := fun _ _ => True) rfl (by kernel_rfl) (fun K hK => ?_)
        go_simp
        refine hK _ _ ⟨trivial, ?_⟩
        clear hK K
        try simp only [Act.put, List.setIfInBounds_toArray, List.set_cons_zero, List.set_cons_succ]
        obtain ⟨b, hb⟩ : ∃ b, b = wr.heap.size := ⟨_, rfl⟩
        have hE1 := (Below.refl wr.drew.heap.size wr.drew).alloc (Nat.le_refl _) (.cells (waysC (List.replicate m en0)).toArray 59)
        have hG1 : Blk (wr.drew.alloc (.cells (waysC (List.replicate m en0)).toArray 59)) b 59 (waysC (List.replicate m en0)).toArray := Blkf.new_at _ _ _ _ hb
        have HWB : Hid (W.heap.size ≤ b) := Lib.hid (by rw [hb]; exact HE.out.size)
        have HNB : Hid (∀ x ∈ Gl, x < b) := Lib.hid (fun x hx => by rw [hb]; exact (HBS.out x hx).1.lt)
        have hX1 := HX.out.drew.below hE1 HX.out.lt
        have hO1 := own_below HO.out.drew hE1
        have hC1 := HE.out.drew.trans (hE1.mono HE.out.size)
        have hS1 : ∀ x ∈ Gl, Blk (wr.drew.alloc (.cells (waysC (List.replicate m en0)).toArray 59)) x 59 (waysC (List.replicate m en0)).toArray := fun x hx => (HBS.out x hx).1.drew.below hE1 (HBS.out x hx).1.lt
        refine (show wpPT _ _ _ _ _ _ (wr.drew.alloc (.cells (waysC (List.replicate m en0)).toArray 59)) from ?_)
        rw [← hb]
        generalize wr.drew.alloc (.cells (waysC (List.replicate m en0)).toArray 59) = w1 at *
        clear hE1 hb
        refine pt_fork ?_ ?_
        focus
          have t0 := (hX1).cell 0
          simp at t0
          refine pt_op (R := fun _ _ => True) rfl (by kernel_rfl) (fun K hK => ?_)
          go_simp
          refine hK _ _ ⟨trivial, ?_⟩
          clear hK K
          try simp only [Act.put, List.setIfInBounds_toArray, List.set_cons_zero, List.set_cons_succ]
          clear t0
          refine pt_turn ?_
          refine pt_op (R := fun _ _ => True) rfl (by kernel_rfl) (fun K hK => ?_)
          go_simp
          refine hK _ _ ⟨trivial, ?_⟩
          clear hK K
          try simp only [Act.put, List.setIfInBounds_toArray, List.set_cons_zero, List.set_cons_succ]
          have hE2 := (Below.refl w1.heap.size w1).alloc (Nat.le_refl _) (.cells #[SlOf b m] 55)
          have hR2 : Reads (w1.alloc (.cells #[SlOf b m] 55)) (w1.heap.size + 1) 1 (some ⟨w1.heap.size, 0, none⟩) 1 [SlOf b m] := ⟨rfl, fun _ => ⟨_, rfl, Nat.lt_succ_self _, fun j u hj => by
            match j, hj with
            | 0, hj => exact ((Blkf.new_at w1 55 (0, 0) #[SlOf b m] rfl).cell 0).trans hj
            | j + 1, hj => simp at hj⟩⟩
          have hX2 := hX1.below hE2 hX1.lt
          have hO2 := own_below hO1 hE2
          have hC2 := hC1.trans (hE2.mono hC1.size)
          have hG2 := hG1.below hE2 hG1.lt
          have hS2 := fun x hx => (hS1 x hx).below hE2 (hS1 x hx).lt
          obtain ⟨g2, hg2⟩ : ∃ g, g = w1.heap.size := ⟨_, rfl⟩
          refine (show wpPT _ _ _ _ _ _ (w1.alloc (.cells #[SlOf b m] 55)) from ?_)
          rw [← hg2] at hR2 ⊢
          have hsz2 : g2 + 1 = (w1.alloc (.cells #[SlOf b m] 55)).heap.size := by rw [hg2]; simp
          generalize w1.alloc (.cells #[SlOf b m] 55) = w2 at *
          clear hE2 hX1 hO1 hC1 hG1 hS1 hg2
          refine pt_turn ?_
          refine pt_op (R := fun _ _ => True) rfl (by kernel_rfl) (fun K hK => ?_)
          refine wp_append_any _ (.tmp 37) (.tmp 40) _ rfl W.heap.size 55 i0 _ 1 24 Try.underlying52 hi0 hz0 hz1 hz2 rfl (by decide) v k (Gl.map (SlOf · m)) rfl hO2 (g2 + 1) (some ⟨g2, 0, none⟩) 1 1 [SlOf b m] rfl hR2 (fun u hu => by simp at hu; subst hu; rfl) (by unfold maxLen; omega) (by omega) hC2.size ?_
          intro v3 w3 hown hgrow _
          obtain ⟨A3, c3, rfl⟩ := row_form hown
          have hX3 := hX2.grown hgrow (fun e => row_ne_blk hO2 hX2 (by decide) e.symm)
          have hG3 := hG2.grown hgrow (fun e => row_ne_blk hO2 hG2 (by decide) e.symm)
          have hS3 := fun x hx => (hS2 x hx).grown hgrow (fun e => row_ne_blk hO2 (hS2 x hx) (by decide) e.symm)
          have hC3 := below_grown hO2 hC2 hgrow hC2.size
          refine hK _ _ ⟨trivial, ?_⟩
          clear hK K
          simp only [Act.put, List.setIfInBounds_toArray, List.set_cons_zero, List.set_cons_succ]
          clear hX2 hG2 hS2 hC2 hO2 hR2 hsz2 hgrow
          iterate 2 (refine pt_take (v := ?_) rfl (by kernel_rfl) ?_ ?_; rotate_left; (focus (intro w' hw'; try go_simp; try with_reducible rfl)); simp only [Act.put, List.setIfInBounds_toArray, List.set_cons_zero, List.set_cons_succ])
          have z0 := hX3.cell 0
          have zl := hX3.lt
          have zf := fun i => hX3.frozen i
          simp at z0
          refine pt_turn ?_
          refine pt_op (R := fun _ _ => True) rfl (by kernel_rfl) (fun K hK => ?_)
          go_simp
          refine hK _ _ ⟨trivial, ?_⟩
          clear hK K z0 zl zf
          refine pt_end ?_
          have hKp := (Keeps.refl (fun x => x = W.heap.size) w3).setCell (p := ⟨W.heap.size, 0, none⟩) (.inl rfl) (.slice A3 (k + 1) c3)
          have hX4 := hX3.set_ 0 (.slice A3 (k + 1) c3)
          have hO4 := hKp.row hown (fun x hx h => row_ne_blk hown hX3 (by decide) (by rw [hx, h]))
          have hC4 := hC3.setCell (p := ⟨W.heap.size, 0, none⟩) (Nat.le_refl _) (.slice A3 (k + 1) c3)
          have hG4 := hKp.blk hG3 (fun e => blk_ne_blk hX3 hG3 (by decide) e.symm)
          have hS4 := fun x hx => hKp.blk (hS3 x hx) (fun e => blk_ne_blk hX3 (hS3 x hx) (by decide) e.symm)
          simp at hX4
          generalize w3.setCell ⟨W.heap.size, 0, none⟩ (.slice A3 (k + 1) c3) = w4 at *
          have HREL : Hid (NewRel W W.heap.size m (k + 1) w4) := Lib.hid ⟨Gl ++ [b], .slice A3 (k + 1) c3, by rw [List.length_append, HGL.out]; rfl, hX4, by rw [List.map_append]; exact hO4, hC4, fun x hx => by
            rcases List.mem_append.1 hx with hx | hx
            · exact ⟨hS4 x hx, (HBS.out x hx).2⟩
            · simp at hx; rw [hx]; exact ⟨hG4, HWB.out⟩, by
            rw [List.nodup_append]
            refine ⟨HND.out, by simp, fun x hx y hy e => ?_⟩
            simp at hy
            have := HNB.out x hx
            omega⟩
          clear hX4 hO4 hC4 hG4 hS4 hKp hX3 hG3 hS3 hC3 hown
          go_wp2_with fail
          exact ⟨⟨k + 1, hks, by go_num, HREL.out⟩, by simp [intOf]; omega⟩
        focus
          refine pt_op (R := fun _ _ => True) rfl (by kernel_rfl) (fun K hK => ?_)
          go_simp
          refine hK _ _ ⟨trivial, ?_⟩
          clear hK K
          try simp only [Act.put, List.setIfInBounds_toArray, List.set_cons_zero, List.set_cons_succ]
          have hE2 := (Below.refl w1.heap.size w1).alloc (Nat.le_refl _) (.cells #[SlOf b m] 55)
          have hR2 : Reads (w1.alloc (.cells #[SlOf b m] 55)) (w1.heap.size + 1) 1 (some ⟨w1.heap.size, 0, none⟩) 1 [SlOf b m] := ⟨rfl, fun _ => ⟨_, rfl, Nat.lt_succ_self _, fun j u hj => by
            match j, hj with
            | 0, hj => exact ((Blkf.new_at w1 55 (0, 0) #[SlOf b m] rfl).cell 0).trans hj
            | j + 1, hj => simp at hj⟩⟩
          have hX2 := hX1.below hE2 hX1.lt
          have hO2 := own_below hO1 hE2
          have hC2 := hC1.trans (hE2.mono hC1.size)
          have hG2 := hG1.below hE2 hG1.lt
          have hS2 := fun x hx => (hS1 x hx).below hE2 (hS1 x hx).lt
          obtain ⟨g2, hg2⟩ : ∃ g, g = w1.heap.size := ⟨_, rfl⟩
          refine (show wpPT _ _ _ _ _ _ (w1.alloc (.cells #[SlOf b m] 55)) from ?_)
          rw [← hg2] at hR2 ⊢
          have hsz2 : g2 + 1 = (w1.alloc (.cells #[SlOf b m] 55)).heap.size := by rw [hg2]; simp
          generalize w1.alloc (.cells #[SlOf b m] 55) = w2 at *
          clear hE2 hX1 hO1 hC1 hG1 hS1 hg2
          refine pt_turn ?_
          have t0 := (hX2).cell 0
          simp at t0
          refine pt_op (R := fun _ _ => True) rfl (by kernel_rfl) (fun K hK => ?_)
          go_simp
          refine hK _ _ ⟨trivial, ?_⟩
          clear hK K
          try simp only [Act.put, List.setIfInBounds_toArray, List.set_cons_zero, List.set_cons_succ]
          clear t0
          refine pt_turn ?_
          refine pt_op (R := fun _ _ => True) rfl (by kernel_rfl) (fun K hK => ?_)
          refine wp_append_any _ (.tmp 37) (.tmp 40) _ rfl W.heap.size 55 i0 _ 1 24 Try.underlying52 hi0 hz0 hz1 hz2 rfl (by decide) v k (Gl.map (SlOf · m)) rfl hO2 (g2 + 1) (some ⟨g2, 0, none⟩) 1 1 [SlOf b m] rfl hR2 (fun u hu => by simp at hu; subst hu; rfl) (by unfold maxLen; omega) (by omega) hC2.size ?_
          intro v3 w3 hown hgrow _
          obtain ⟨A3, c3, rfl⟩ := row_form hown
          have hX3 := hX2.grown hgrow (fun e => row_ne_blk hO2 hX2 (by decide) e.symm)
          have hG3 := hG2.grown hgrow (fun e => row_ne_blk hO2 hG2 (by decide) e.symm)
          have hS3 := fun x hx => (hS2 x hx).grown hgrow (fun e => row_ne_blk hO2 (hS2 x hx) (by decide) e.symm)
          have hC3 := below_grown hO2 hC2 hgrow hC2.size
          refine hK _ _ ⟨trivial, ?_⟩
          clear hK K
          simp only [Act.put, List.setIfInBounds_toArray, List.set_cons_zero, List.set_cons_succ]
          clear hX2 hG2 hS2 hC2 hO2 hR2 hsz2 hgrow
          iterate 2 (refine pt_take (v := ?_) rfl (by kernel_rfl) ?_ ?_; rotate_left; (focus (intro w' hw'; try go_simp; try with_reducible rfl)); simp only [Act.put, List.setIfInBounds_toArray, List.set_cons_zero, List.set_cons_succ])
          have z0 := hX3.cell 0
          have zl := hX3.lt
          have zf := fun i => hX3.frozen i
          simp at z0
          refine pt_turn ?_
          refine pt_op (R := fun _ _ => True) rfl (by kernel_rfl) (fun K hK => ?_)
          go_simp
          refine hK _ _ ⟨trivial, ?_⟩
          clear hK K z0 zl zf
          refine pt_end ?_
          have hKp := (Keeps.refl (fun x => x = W.heap.size) w3).setCell (p := ⟨W.heap.size, 0, none⟩) (.inl rfl) (.slice A3 (k + 1) c3)
          have hX4 := hX3.set_ 0 (.slice A3 (k + 1) c3)
          have hO4 := hKp.row hown (fun x hx h => row_ne_blk hown hX3 (by decide) (by rw [hx, h]))
          have hC4 := hC3.setCell (p := ⟨W.heap.size, 0, none⟩) (Nat.le_refl _) (.slice A3 (k + 1) c3)
          have hG4 := hKp.blk hG3 (fun e => blk_ne_blk hX3 hG3 (by decide) e.symm)
          have hS4 := fun x hx => hKp.blk (hS3 x hx) (fun e => blk_ne_blk hX3 (hS3 x hx) (by decide) e.symm)
          simp at hX4
          generalize w3.setCell ⟨W.heap.size, 0, none⟩ (.slice A3 (k + 1) c3) = w4 at *
          have HREL : Hid (NewRel W W.heap.size m (k + 1) w4) := Lib.hid ⟨Gl ++ [b], .slice A3 (k + 1) c3, by rw [List.length_append, HGL.out]; rfl, hX4, by rw [List.map_append]; exact hO4, hC4, fun x hx => by
            rcases List.mem_append.1 hx with hx | hx
            · exact ⟨hS4 x hx, (HBS.out x hx).2⟩
            · simp at hx; rw [hx]; exact ⟨hG4, HWB.out⟩, by
            rw [List.nodup_append]
            refine ⟨HND.out, by simp, fun x hx y hy e => ?_⟩
            simp at hy
            have := HNB.out x hx
            omega⟩
          clear hX4 hO4 hC4 hG4 hS4 hKp hX3 hG3 hS3 hC3 hown
          go_wp2_with fail
          exact ⟨⟨k + 1, hks, by go_num, HREL.out⟩, by simp [intOf]; omega⟩
    · obtain rfl : s = k := by omega
      go_wp2
      go_ret2
      exact ⟨rfl, Gl, v, HGL.out, HX.out, HO.out, HE.out, HBS.out, HND.out⟩
end Go.Proofs.Ytnjoobggcejgkaa
