/- Chain: the walk. -/
import Derived.Test.YtocjapnagggapaaDoorClkH
namespace Go.Proofs.YtocjapnagggapaaDoor
open Go.RowKit Go.ChangeShapes

def updN (g : Nat → Nat) (i v : Nat) : Nat → Nat := fun j => if j = i then v else g j
theorem updN_two (g : Nat → Nat) (i v u : Nat) : updN (updN g i v) i u = updN g i u := by
  funext j; unfold updN; split <;> simp_all
theorem updN_id (g : Nat → Nat) (i : Nat) : updN g i (g i) = g := by
  funext j; unfold updN; split <;> simp_all
/-- The longest line behind fact i, from the first k. -/
def chR (f : Nat → Fc) (i : Nat) (g : Nat → Nat) : Nat → Nat
  | 0 => g i
  | k + 1 => if (f k).ok && aheadB (ciN (tellC f k)) (ciN (tellC f i)) then max (chR f i g k) (g k) else chR f i g k
def chG (f : Nat → Fc) : Nat → Nat → Nat
  | 0 => fun _ => 0
  | i + 1 => if (f i).ok then updN (chG f i) i (chR f i (chG f i) i + 1) else chG f i
def chB (f : Nat → Fc) : Nat → Nat
  | 0 => 0
  | i + 1 => if (f i).ok then max (chB f i) (chR f i (chG f i) i + 1) else chB f i
theorem chR_le (f : Nat → Fc) (i m : Nat) (g : Nat → Nat) (hg : ∀ j, g j ≤ m) : ∀ k, chR f i g k ≤ m
  | 0 => hg i
  | k + 1 => by
    have h1 := chR_le f i m g hg k
    have h2 := hg k
    unfold chR
    split <;> omega
theorem chG_le (f : Nat → Fc) : ∀ i j, chG f i j ≤ i
  | 0, j => Nat.le_refl _
  | i + 1, j => by
    have h1 := chG_le f i
    have h2 := chR_le f i i (chG f i) h1 i
    unfold chG
    split
    · unfold updN
      split
      · omega
      · have := h1 j; omega
    · have := h1 j; omega
theorem chB_le (f : Nat → Fc) : ∀ i, chB f i ≤ i
  | 0 => Nat.le_refl _
  | i + 1 => by
    have h1 := chB_le f i
    have h2 := chR_le f i i (chG f i) (chG_le f i) i
    unfold chB
    split <;> omega
theorem fnC_upd {n i v : Nat} (g : Nat → Nat) (h : i < n) : (fnC n g).setIfInBounds i (.int .i64 (v : Int)) = fnC n (updN g i v) := fnC_set g h
theorem info_i : (Tryd.prog.info? 3).map (fun i => (i.zero, i.size, i.bytes)) = some (some (.int .i64 0), 1, 8) := by kernel_rfl
theorem made_fn (n : Nat) : madeCells #[Value.int .i64 0] n = fnC n (fun _ => 0) := by
  apply Array.ext'
  rw [toList_madeCells_one]
  apply List.ext_getElem?
  intro i
  rcases Nat.lt_or_ge i n with h | h
  · have := fnC_get (fun _ => 0) h
    rw [← Array.getElem?_toList] at this
    rw [this, List.getElem?_replicate, if_pos h]
    rfl
  · rw [List.getElem?_eq_none (by simpa using h), List.getElem?_eq_none (by simpa [fnC_size] using h)]
set_option maxRecDepth 100000 in
set_option maxHeartbeats 8000000 in
theorem chain_any (A : Option Addr) (len cap : Nat) (C : Nat → Array Value) (f : Nat → Fc) (W : World) (hl : len ≤ 40) (h : FsAt W A len C f) :
    Calls Tryd.prog 10 #[.slice A len cap] W fun e w' => e = .returned (.int .i64 (chB f len : Int)) ∧ Below W.heap.size W w' := by
  obtain ⟨j0, hj0, hy0, hy1, hy2⟩ := info_parts info_i
  have HFS := Lib.hid h
  have HGL := Lib.hid (chG_le f)
  have HBL := Lib.hid (chB_le f)
  have HRL := Lib.hid (chR_le f)
  have hmk : ∀ W, (Instr.makeSlice 55 (.int .i64 (len : Int)) (.int .i64 (len : Int))).run Tryd.prog W = .ok (.slice (some ⟨W.heap.size, 0, none⟩) len len) (W.alloc (.cells (fnC len (fun _ => 0)) 3)) := fun W => by
    have h := run_make (P := Tryd.prog) W 55 3 j0 _ Tryd.underlying55 hj0 hy0 .i64 .i64 (len : Int) (len : Int) (by omega) (by omega) (by rw [hy2]; omega) (by omega)
    rw [hy1] at h
    simpa [Value.cells, made_fn] using h
  clear h hj0 hy0 hy1 hy2 j0
  go_enter Tryd.func10, Tryd.ntmps10
  go_wp2_with fail
  refine (clocks_any A len cap C f W hl HFS.out).mono ?_
  rintro e w1 ⟨v, rfl, hrow, hb1⟩
  obtain ⟨cA, cp, rfl⟩ := row_form hrow
  have HCS := Lib.hid (csAt_of hrow)
  have HFS1 := Lib.hid (HFS.out.below hb1)
  have HB1 := Lib.hid hb1
  have HL0 : Hid (Blk (w1.alloc (.cells (fnC len (fun _ => 0)) 3)) w1.heap.size 3 (fnC len (chG f 0))) := Lib.hid (Blkf.new_at _ _ _ _ rfl)
  have HE0 := Lib.hid (ext_alloc' w1 (.cells (fnC len (fun _ => 0)) 3))
  clear hrow hb1
  go_wp2_with fail
  have HLB : Hid (w1.heap.size ≤ w1.heap.size) := Lib.hid (Nat.le_refl _)
  generalize w1.alloc (.cells (fnC len (fun _ => 0)) 3) = w1a at *
  obtain ⟨lb, hlb⟩ : ∃ lb, lb = w1.heap.size := ⟨_, rfl⟩
  rw [← hlb] at HL0 ⊢
  have HLB : Hid (w1.heap.size ≤ lb) := Lib.hid (Nat.le_of_eq hlb.symm)
  clear hlb hmk
  go_loopw [5, 16] (fun n i wr => ∃ k : Nat, k ≤ len ∧ i = .int .i64 (k : Int) ∧ n = .int .i64 (chB f k : Int) ∧ Ext w1 wr ∧ Blk wr lb 3 (fnC len (chG f k))) (fun _ i _ => len - (intOf i).toNat)
  case atStart => exact ⟨0, by omega, rfl, rfl, HE0.out, HL0.out⟩
  clear HL0 HE0
  case round =>
    obtain ⟨i, hi, rfl, rfl, hE, hB⟩ := hrel
    have HE := Lib.hid hE
    have HLG := Lib.hid hB
    clear hE hB
    by_cases hil : i < len
    · obtain ⟨b, o, rfl, hbl, hcc⟩ := HFS1.out (by omega)
      obtain ⟨cb, rfl, hcl, hcr⟩ := HCS.out (by omega)
      obtain ⟨hrg, hfc⟩ := hcc i hil
      have HC := Lib.hid hfc
      have HCC := Lib.hid hcc
      have HCR := Lib.hid hcr
      have HBK := Lib.hid hbl
      have HCL := Lib.hid hcl
      have HRG : Hid (wr.rangeAt b (o + i * 16) (C i).toList) := Lib.hid (fun j v hj => (HE.out.cell (p := ⟨b, o + i * 16 + j, none⟩) hbl).trans (hrg j v hj))
      have hbx : Blk (wr.alloc (.cells (C i) 40)) wr.heap.size 40 (C i) := Blkf.new_at _ _ _ _ rfl
      have c1 : (wr.alloc (.cells (C i) 40)).cell? ⟨wr.heap.size, 1, none⟩ = some (.int .i64 (f i).node) := (hbx.cell 1).trans HC.out.node
      have HE1 := Lib.hid (HE.out.trans (ext_alloc' wr (.cells (C i) 40)))
      have HLG1 := Lib.hid (Blkf.below HLG.out (ext_alloc' wr (.cells (C i) 40)) HLG.out.lt)
      have zf := zero_fact
      have hii : (i : Int) < (len : Int) := by omega
      clear hbx hrg hfc hcc hbl hcl hcr HE HLG
      go_wp2_with (first | ((with_reducible refine wl_load 40 (.tmp 19) rfl ?_ b (o + i * 16) (C i) ?_ HRG.out ?_ ?_); exact rfl; exact rfl; exact HC.out.row) | ((with_reducible refine wl_store_new 40 (.tmp 7) (.tmp 20) rfl ?_ wr (World.heap wr).size 40 factZ (C i) ?_ ?_ ?_ ?_ ?_ ?_ ?_ ?_); exact rfl; exact rfl; exact rfl; exact rfl; exact rfl; exact (HC.out.size.symm); exact HC.out.row; exact HC.out.one))
      refine (node_any (f i).node _).mono ?_
      rintro e w2 ⟨rfl, hw2⟩
      rw [hw2] at HE1 HLG1
      clear c1 HRG zf hw2
      cases hni : (f i).ok with
      | false =>
        have hni' : (decide (0 ≤ (f i).node) && decide ((f i).node < 16)) = false := hni
        rw [hni']
        clear hni'
        go_wp2_with fail
        go_roundw
        case rel => exact ⟨i + 1, hil, by go_num, by rw [chB, if_neg (by rw [hni]; decide)], HE1.out, by rw [chG, if_neg (by rw [hni]; decide)]; exact HLG1.out⟩
        case measure => simp [intOf]; omega
      | true =>
        have hni' : (decide (0 ≤ (f i).node) && decide ((f i).node < 16)) = true := hni
        rw [hni']
        clear hni'
        have HLG2 : Hid (Blk w2 lb 3 (fnC len (updN (chG f i) i (chR f i (chG f i) 0)))) := Lib.hid (by rw [show chR f i (chG f i) 0 = chG f i i from rfl, updN_id]; exact HLG1.out)
        have HG : Hid (∀ j, chG f i j ≤ i) := Lib.hid (HGL.out i)
        have HR : Hid (∀ k, chR f i (chG f i) k ≤ i) := Lib.hid (HRL.out i i (chG f i) HG.out)
        have HB : Hid (chB f i ≤ i) := Lib.hid (HBL.out i)
        have HG1 : Hid (updN (chG f i) i (chR f i (chG f i) i + 1) = chG f (i + 1)) := Lib.hid (by rw [chG, if_pos hni])
        have HB2 : Hid (max (chB f i) (chR f i (chG f i) i + 1) = chB f (i + 1)) := Lib.hid (by rw [chB, if_pos hni])
        clear HLG1
        generalize chG f i = gg at *
        generalize chB f i = bb at *
        go_wp2_with fail
        go_loopw [26] (fun q wx => ∃ k : Nat, k ≤ i ∧ q = .int .i64 (k : Int) ∧ Ext w1 wx ∧ Blk wx lb 3 (fnC len (updN gg i (chR f i gg k)))) (fun q _ => i - (intOf q).toNat)
        case atStart => exact ⟨0, by omega, rfl, HE1.out, HLG2.out⟩
        clear HE1 HLG2
        case round =>
          obtain ⟨k, hk, rfl, hE2, hB2⟩ := hrel
          rename World => wx
          have HE2 := Lib.hid hE2
          have HX2 := Lib.hid hB2
          clear hB2
          by_cases hki : k < i
          · have hkl : k < len := by omega
            have hik : (k : Int) < (i : Int) := by omega
            have hkk : (k : Int) < (len : Int) := by omega
            have s2 : ∀ W', Ext wx.drew W' → W'.cell? ⟨b, o + k * 16 + 1, none⟩ = some (.int .i64 (f k).node) := fun W' h => (h.cell (p := ⟨b, o + k * 16 + 1, none⟩) (Nat.lt_of_lt_of_le HBK.out hE2.size)).trans ((hE2.cell (p := ⟨b, o + k * 16 + 1, none⟩) HBK.out).trans ((HCC.out k hkl).1 1 _ (by rw [Array.getElem?_toList]; exact (HCC.out k hkl).2.node)))
            have si : ∀ W', Ext wx.drew W' → W'.rangeAt cb (i * 16) (fnC 16 (tellC f i)).toList := fun W' h j v hj => (h.cell (p := ⟨cb, i * 16 + j, none⟩) (Nat.lt_of_lt_of_le HCL.out hE2.size)).trans ((hE2.cell (p := ⟨cb, i * 16 + j, none⟩) HCL.out).trans (HCR.out i hil j v hj))
            have sk : ∀ W', Ext wx.drew W' → W'.rangeAt cb (k * 16) (fnC 16 (tellC f k)).toList := fun W' h j v hj => (h.cell (p := ⟨cb, k * 16 + j, none⟩) (Nat.lt_of_lt_of_le HCL.out hE2.size)).trans ((hE2.cell (p := ⟨cb, k * 16 + j, none⟩) HCL.out).trans (HCR.out k hkl j v hj))
            have hwi : okC (tellC f i) := tell_wf f (by omega)
            have hwk : okC (tellC f k) := tell_wf f (by omega)
            clear hE2
            go_wp2_with fail
            cases hnk : (f k).ok with
            | false =>
              have hnk' : (decide (0 ≤ (f k).node) && decide ((f k).node < 16)) = false := hnk
              have HK : Hid (chR f i gg (k + 1) = chR f i gg k) := Lib.hid (by rw [chR, if_neg (by rw [hnk]; simp)])
              refine wp_region_plan [(0, false), (1, false), (2, false), (3, false), (4, false), (5, false), (6, false), (7, false), (8, false), (9, false), (10, false), (11, false), (12, false), (13, false), (14, false), (15, false), (16, false)] (by kernel_rfl) (by kernel_rfl) (fun _ d _ _ _ h => by cases d <;> exact h) ?_
              iterate 5 (refine plan_take (v := ?_) rfl (by kernel_rfl) ?_ ?_; rotate_left; (focus (intro w' hw'; try go_simp; try with_reducible rfl)); simp only [Act.put, List.setIfInBounds_toArray, List.set_cons_zero, List.set_cons_succ])
              refine plan_quiet rfl (by kernel_rfl) (fun w' => by go_simp; all_goals (first | exact ⟨rfl, rfl⟩ | rfl)) (fun w' hw' => (node_any (f k).node w').mono (fun e w'' h => by rw [hnk'] at h; exact h)) ?_
              simp only [Act.put, List.setIfInBounds_toArray, List.set_cons_zero, List.set_cons_succ]
              iterate 1 (refine plan_take (v := ?_) rfl (by kernel_rfl) ?_ ?_; rotate_left; (focus (intro w' hw'; try go_simp; try with_reducible rfl)); simp only [Act.put, List.setIfInBounds_toArray, List.set_cons_zero, List.set_cons_succ])
              iterate 9 (refine plan_skip rfl (by kernel_rfl) ?_; simp only [Act.put, List.setIfInBounds_toArray, List.set_cons_zero, List.set_cons_succ])
              iterate 1 (refine plan_take (v := ?_) rfl (by kernel_rfl) ?_ ?_; rotate_left; (focus (intro w' hw'; try go_simp; try with_reducible rfl)); simp only [Act.put, List.setIfInBounds_toArray, List.set_cons_zero, List.set_cons_succ])
              refine plan_end ?_
              clear s2 si sk
              go_wp2_with fail
              go_roundw
              case rel => exact ⟨k + 1, by omega, by go_num, HE2.out.drew, by rw [HK.out]; exact HX2.out.drew⟩
              case measure => simp [intOf]; omega
            | true =>
              have hnk' : (decide (0 ≤ (f k).node) && decide ((f k).node < 16)) = true := hnk
              refine wp_region_plan [(0, false), (1, false), (2, false), (3, false), (4, false), (5, false), (6, false), (7, false), (8, false), (9, false), (10, false), (11, false), (12, false), (13, false), (14, false), (15, true), (16, false)] (by kernel_rfl) (by kernel_rfl) (fun _ d _ _ _ h => by cases d <;> exact h) ?_
              iterate 5 (refine plan_take (v := ?_) rfl (by kernel_rfl) ?_ ?_; rotate_left; (focus (intro w' hw'; try go_simp; try with_reducible rfl)); simp only [Act.put, List.setIfInBounds_toArray, List.set_cons_zero, List.set_cons_succ])
              refine plan_quiet rfl (by kernel_rfl) (fun w' => by go_simp; all_goals (first | exact ⟨rfl, rfl⟩ | rfl)) (fun w' hw' => (node_any (f k).node w').mono (fun e w'' h => by rw [hnk'] at h; exact h)) ?_
              simp only [Act.put, List.setIfInBounds_toArray, List.set_cons_zero, List.set_cons_succ]
              iterate 4 (refine plan_take (v := ?_) rfl (by kernel_rfl) ?_ ?_; rotate_left; (focus (intro w' hw'; try go_simp; try with_reducible rfl)); simp only [Act.put, List.setIfInBounds_toArray, List.set_cons_zero, List.set_cons_succ])
              refine plan_take (v := .agg (fnC 16 (tellC f k))) rfl (by kernel_rfl) (fun w' hw' => run_load_op 26 (.tmp 38) rfl cb (k * 16) _ rfl (sk w' hw') (arr_row _)) ?_
              simp only [Act.put, List.setIfInBounds_toArray, List.set_cons_zero, List.set_cons_succ]
              iterate 3 (refine plan_take (v := ?_) rfl (by kernel_rfl) ?_ ?_; rotate_left; (focus (intro w' hw'; try go_simp; try with_reducible rfl)); simp only [Act.put, List.setIfInBounds_toArray, List.set_cons_zero, List.set_cons_succ])
              refine plan_take (v := .agg (fnC 16 (tellC f i))) rfl (by kernel_rfl) (fun w' hw' => run_load_op 26 (.tmp 42) rfl cb (i * 16) _ rfl (si w' hw') (arr_row _)) ?_
              simp only [Act.put, List.setIfInBounds_toArray, List.set_cons_zero, List.set_cons_succ]
              refine plan_call rfl (by kernel_rfl) (by go_simp; exact ⟨rfl, rfl⟩) ?_
              refine (ahead_nat (tellC f k) (tellC f i) _ hwk hwi).mono ?_
              rintro e w5 ⟨rfl, hb5⟩
              refine ⟨_, rfl, hb5, ?_⟩
              simp only [Act.put, List.setIfInBounds_toArray, List.set_cons_zero, List.set_cons_succ]
              have HE5 : Hid (Ext w1 w5) := Lib.hid (Ext.trans (show Ext w1 wx.drew from HE2.out.drew) hb5)
              have HX5 := Lib.hid (Blkf.below HX2.out.drew hb5 HX2.out.drew.lt)
              clear s2 si sk hb5 HE2 HX2
              cases hah : aheadB (ciN (tellC f k)) (ciN (tellC f i)) with
              | false =>
                have HK : Hid (chR f i gg (k + 1) = chR f i gg k) := Lib.hid (by rw [chR, if_neg (by rw [hnk, hah]; decide)])
                iterate 1 (refine plan_take (v := ?_) rfl (by kernel_rfl) ?_ ?_; rotate_left; (focus (intro w' hw'; try go_simp; try with_reducible rfl)); simp only [Act.put, List.setIfInBounds_toArray, List.set_cons_zero, List.set_cons_succ])
                refine plan_end ?_
                go_wp2_with fail
                go_roundw
                case rel => exact ⟨k + 1, by omega, by go_num, HE5.out, by rw [HK.out]; exact HX5.out⟩
                case measure => simp [intOf]; omega
              | true =>
                have HK : Hid (chR f i gg (k + 1) = max (chR f i gg k) (gg k)) := Lib.hid (by rw [chR, if_pos (by rw [hnk, hah]; decide)])
                iterate 1 (refine plan_take (v := ?_) rfl (by kernel_rfl) ?_ ?_; rotate_left; (focus (intro w' hw'; try go_simp; try with_reducible rfl)); simp only [Act.put, List.setIfInBounds_toArray, List.set_cons_zero, List.set_cons_succ])
                refine plan_end ?_
                generalize chR f i gg k = r at *
                have hr := HX5.out.drew
                have l1 : ∀ W', Ext w5.drew W' → W'.cell? ⟨lb, i, none⟩ = some (.int .i64 (r : Int)) := fun W' h => (h.cell (p := ⟨lb, i, none⟩) hr.lt).trans ((hr.cell _).trans ((fnC_get _ hil).trans (by unfold updN; rw [if_pos rfl])))
                have l2 : ∀ W', Ext w5.drew W' → W'.cell? ⟨lb, k, none⟩ = some (.int .i64 (gg k : Int)) := fun W' h => (h.cell (p := ⟨lb, k, none⟩) hr.lt).trans ((hr.cell _).trans ((fnC_get _ hkl).trans (by unfold updN; rw [if_neg (by omega)])))
                have lc := l1 _ (Below.refl _ _)
                have hll := hr.lt
                have hfz := Blk.frozen hr i
                clear hr
                go_wp2_with fail
                refine wp_region_plan [(0, false), (1, false), (2, false), (3, false), (4, false), (5, false), (6, false), (7, false), (8, false), (9, false), (10, false), (11, false), (12, true)] (by kernel_rfl) (by kernel_rfl) (fun _ d _ _ _ h => by cases d <;> exact h) ?_
                iterate 10 (refine plan_take (v := ?_) rfl (by kernel_rfl) ?_ ?_; rotate_left; (focus (intro w' hw'; try go_simp; try with_reducible rfl)); simp only [Act.put, List.setIfInBounds_toArray, List.set_cons_zero, List.set_cons_succ])
                refine plan_take (v := .int .i64 ((max r (gg k) : Nat) : Int)) rfl (by kernel_rfl) (fun w' hw' => by
                  go_simp
                  omega) ?_
                simp only [Act.put, List.setIfInBounds_toArray, List.set_cons_zero, List.set_cons_succ]
                iterate 1 (refine plan_take (v := ?_) rfl (by kernel_rfl) ?_ ?_; rotate_left; (focus (intro w' hw'; try go_simp; try with_reducible rfl)); simp only [Act.put, List.setIfInBounds_toArray, List.set_cons_zero, List.set_cons_succ])
                clear l1 l2
                have HF : Hid (Ext w1 (w5.drew.setCell ⟨lb, i, none⟩ (.int .i64 ((max r (gg k) : Nat) : Int))) ∧ Blk (w5.drew.setCell ⟨lb, i, none⟩ (.int .i64 ((max r (gg k) : Nat) : Int))) lb 3 (fnC len (updN gg i (chR f i gg (k + 1))))) := Lib.hid (by
                  have h1 := HX5.out.drew.set_ i (.int .i64 ((max r (gg k) : Nat) : Int))
                  rw [fnC_upd _ hil, updN_two] at h1
                  rw [HK.out]
                  exact ⟨HE5.out.drew.setCell (p := ⟨lb, i, none⟩) HLB.out _, h1⟩)
                generalize max r (gg k) = mx at *
                refine plan_last rfl (by kernel_rfl) (by kernel_rfl) (fun K hK => ?_)
                go_simp
                refine hK _ _ ?_
                clear hK K hfz hll lc
                refine plan_end ?_
                go_wp2_with fail
                go_roundw
                case rel => exact ⟨k + 1, by omega, by go_num, HF.out.1, HF.out.2⟩
                case measure => simp [intOf]; omega
          · obtain rfl : k = i := by omega
            have hr := HX2.out
            have HRR := HR.out k
            generalize chR f k gg k = r at *
            have l1 : wx.cell? ⟨lb, k, none⟩ = some (.int .i64 (r : Int)) := (hr.cell _).trans ((fnC_get _ hil).trans (by unfold updN; rw [if_pos rfl]))
            have hll := hr.lt
            have hfz := Blk.frozen hr k
            have hadd : IntKind.i64.wrap ((r : Int) + 1) = ((r + 1 : Nat) : Int) := by rw [IntKind.wrap_i64]; omega
            have HF : Hid (Ext w1 (wx.setCell ⟨lb, k, none⟩ (.int .i64 ((r + 1 : Nat) : Int))) ∧ Blk (wx.setCell ⟨lb, k, none⟩ (.int .i64 ((r + 1 : Nat) : Int))) lb 3 (fnC len (chG f (k + 1)))) := Lib.hid (by
              have h1 := hr.set_ k (.int .i64 ((r + 1 : Nat) : Int))
              rw [fnC_upd _ hil, updN_two, HG1.out] at h1
              exact ⟨HE2.out.setCell (p := ⟨lb, k, none⟩) HLB.out _, h1⟩)
            have l2 : (wx.setCell ⟨lb, k, none⟩ (.int .i64 ((r + 1 : Nat) : Int))).cell? ⟨lb, k, none⟩ = some (.int .i64 ((r + 1 : Nat) : Int)) := (HF.out.2.cell _).trans ((fnC_get _ hil).trans (by rw [← HG1.out]; unfold updN; rw [if_pos rfl]))
            have HMX : Hid (max bb (r + 1) = chB f (k + 1)) := HB2
            clear hr HE2 HX2
            generalize r + 1 = r1 at *
            go_wp2_with fail
            go_roundw
            case rel => exact ⟨k + 1, hil, by go_num, by rw [← HMX.out]; congr 1; omega, HF.out.1, HF.out.2⟩
            case measure => simp [intOf]; omega
    · obtain rfl : len = i := by omega
      go_wp2_with fail
      go_ret
      exact ⟨rfl, HB1.out.trans (HE.out.mono HB1.out.size)⟩
end Go.Proofs.YtocjapnagggapaaDoor
