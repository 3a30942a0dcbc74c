/- The reference's Ahead: the walk. -/
import Derived.Test.YtocjapnagggapaaDoorCtC
import Derived.Deep.CutBlock
namespace Go.Proofs.YtocjapnagggapaaDoor
open Go.RowKit

def vC (n : Nat) (v : Nat → Value) : Array Value := ((List.range n).map v).toArray
theorem vC_size (n : Nat) (v : Nat → Value) : (vC n v).size = n := by simp [vC]
theorem vC_get {n i : Nat} (v : Nat → Value) (h : i < n) : (vC n v)[i]? = some (v i) := by
  unfold vC
  rw [List.getElem?_toArray, List.getElem?_map, List.getElem?_range h]
  rfl
theorem vC_set {n i : Nat} (v : Nat → Value) (u : Value) (h : i < n) : (vC n v).setIfInBounds i u = vC n (fun j => if j = i then u else v j) := by
  apply Array.ext_getElem?
  intro j
  rcases Nat.lt_or_ge j n with hj | hj
  · rw [vC_get _ hj, Array.getElem?_setIfInBounds]
    by_cases e : i = j
    · subst e
      rw [if_pos rfl, if_pos (by rw [vC_size]; exact h), if_pos rfl]
    · rw [if_neg e, if_neg (fun h => e h.symm), vC_get _ hj]
  · rw [Array.getElem?_eq_none (by simp [vC_size]; exact hj), Array.getElem?_eq_none (by rw [vC_size]; exact hj)]
theorem made_v (z : Value) (n : Nat) : madeCells #[z] n = vC n (fun _ => z) := by
  apply Array.ext'
  rw [toList_madeCells_one]
  apply List.ext_getElem?
  intro i
  rcases Nat.lt_or_ge i n with h | h
  · have := vC_get (fun _ => z) h
    rw [← Array.getElem?_toList] at this
    rw [this, List.getElem?_replicate, if_pos h]
  · rw [List.getElem?_eq_none (by simpa using h), List.getElem?_eq_none (by simpa [vC_size] using h)]
abbrev boC (n : Nat) (r : Nat → Bool) : Array Value := vC n (fun j => .bool (r j))
def outV (G : Nat → Nat) (n m : Nat) : Nat → Value := fun j => if j < m then .slice (some ⟨G j, 0, none⟩) n n else .slice none 0 0
structure RowsAt (W w : World) (ob : Nat) (G : Nat → Nat) (n m : Nat) (g : Nat → Nat → Bool) : Prop where
  out : Blk w ob 54 (vC n (outV G n m))
  row : ∀ j, j < m → Blk w (G j) 4 (boC n (g j))
  ob : W.heap.size ≤ ob
  lo : ∀ j, j < m → W.heap.size ≤ G j
  e : Ext W w
theorem RowsAt.below {W w w' : World} {ob n m : Nat} {G : Nat → Nat} {g : Nat → Nat → Bool} (h : RowsAt W w ob G n m g) (hb : Ext w w') : RowsAt W w' ob G n m g :=
  ⟨Blkf.below h.out hb h.out.lt, fun j hj => Blkf.below (h.row j hj) hb (h.row j hj).lt, h.ob, h.lo, Ext.trans h.e hb⟩
theorem RowsAt.keep {W w w' : World} {ob n m rb : Nat} {G : Nat → Nat} {g : Nat → Nat → Bool} (h : RowsAt W w ob G n m g) (hk : Keeps (fun b => b = rb) w w') (h1 : ob < rb) (h2 : ∀ j, j < m → G j < rb) (h3 : W.heap.size ≤ rb) : RowsAt W w' ob G n m g :=
  ⟨hk.blk h.out (by omega), fun j hj => hk.blk (h.row j hj) (by have := h2 j hj; omega), h.ob, h.lo, Below.trans h.e (hk.below (fun b e => by rw [e]; exact h3) h.e.size)⟩
theorem info_bool : (Tryd.prog.info? 4).map (fun i => (i.zero, i.size, i.bytes)) = some (some (.bool false), 1, 1) := by kernel_rfl
theorem info_bools : (Tryd.prog.info? 54).map (fun i => (i.zero, i.size, i.bytes)) = some (some (.slice none 0 0), 1, 24) := by kernel_rfl
theorem make_bool (n : Nat) (hn : n ≤ 1000) (W : World) : (Instr.makeSlice 54 (.int .i64 (n : Int)) (.int .i64 (n : Int))).run Tryd.prog W = .ok (.slice (some ⟨W.heap.size, 0, none⟩) n n) (W.alloc (.cells (boC n (fun _ => false)) 4)) := by
  obtain ⟨j0, hj0, hy0, hy1, hy2⟩ := info_parts info_bool
  have h := run_make (P := Tryd.prog) W 54 4 j0 _ Tryd.underlying54 hj0 hy0 .i64 .i64 (n : Int) (n : Int) (by omega) (by omega) (by rw [hy2]; omega) (by omega)
  rw [hy1] at h
  simpa [Value.cells, made_v] using h
theorem make_bools (n : Nat) (hn : n ≤ 1000) (W : World) : (Instr.makeSlice 52 (.int .i64 (n : Int)) (.int .i64 (n : Int))).run Tryd.prog W = .ok (.slice (some ⟨W.heap.size, 0, none⟩) n n) (W.alloc (.cells (vC n (fun _ => .slice none 0 0)) 54)) := by
  obtain ⟨j0, hj0, hy0, hy1, hy2⟩ := info_parts info_bools
  have h := run_make (P := Tryd.prog) W 52 54 j0 _ Tryd.underlying52 hj0 hy0 .i64 .i64 (n : Int) (n : Int) (by omega) (by omega) (by rw [hy2]; omega) (by omega)
  rw [hy1] at h
  simpa [Value.cells, made_v] using h
theorem ok3 (x : Fc) : (¬ 0 ≤ x.node ∧ x.ok = false) ∨ (0 ≤ x.node ∧ ¬ x.node < 16 ∧ x.ok = false) ∨ (0 ≤ x.node ∧ x.node < 16 ∧ x.ok = true) := by
  unfold Fc.ok
  by_cases h1 : 0 ≤ x.node <;> by_cases h2 : x.node < 16 <;> simp [h1, h2]
set_option maxRecDepth 100000 in
set_option maxHeartbeats 8000000 in
theorem rahead_any (A : Option Addr) (len cap : Nat) (C : Nat → Array Value) (f : Nat → Fc) (W : World) (hl : len ≤ 40) (h : FsAt W A len C f) :
    Calls Tryd.prog 18 #[.slice A len cap] W fun e w' => ∃ ob G, e = .returned (.slice (some ⟨ob, 0, none⟩) len len) ∧ RowsAt W w' ob G len len (ancG f len) := by
  have HFS := Lib.hid h
  have HM1 := make_bool len (by omega)
  have HM2 := make_bools len (by omega)
  have H0 : Hid (RowsAt W (W.alloc (.cells (vC len (fun _ => .slice none 0 0)) 54)) W.heap.size (fun _ => 0) len 0 (ancG f 0)) := Lib.hid
    ⟨(Blkf.new_at _ _ _ _ rfl : Blk (W.alloc (.cells (vC len (fun _ => .slice none 0 0)) 54)) W.heap.size 54 (vC len (outV (fun _ => 0) len 0))), fun j hj => by omega, Nat.le_refl _, fun j hj => by omega, ext_alloc' _ _⟩
  clear h
  go_enter Tryd.func18, Tryd.ntmps18
  go_wp2_with fail
  generalize W.alloc (.cells (vC len (fun _ => .slice none 0 0)) 54) = w1 at *
  obtain ⟨ob, hob⟩ : ∃ ob, ob = W.heap.size := ⟨_, rfl⟩
  rw [← hob] at H0 ⊢
  clear hob
  go_loopw [13] (fun i wr => ∃ m : Nat, m ≤ len ∧ i = .int .i64 (m : Int) ∧ ∃ G, RowsAt W wr ob G len m (ancG f m)) (fun i _ => len - (intOf i).toNat)
  case atStart => exact ⟨0, by omega, rfl, _, H0.out⟩
  clear H0
  case round =>
    obtain ⟨i, hi, rfl, G, hR⟩ := hrel
    have HR := Lib.hid hR
    clear hR
    by_cases hil : i < len
    · obtain ⟨b, o, rfl, hbl, hcc⟩ := HFS.out (by omega)
      have HCC := Lib.hid hcc
      have HBK := Lib.hid hbl
      have hii : (i : Int) < (len : Int) := by omega
      have HLO : Hid (ob < wr.heap.size ∧ (∀ j, j < i → G j < wr.heap.size) ∧ W.heap.size ≤ wr.heap.size) := Lib.hid ⟨HR.out.out.lt, fun j hj => (HR.out.row j hj).lt, HR.out.e.size⟩
      have HR1 := Lib.hid (HR.out.below (ext_alloc' wr (.cells (boC len (fun _ => false)) 4)))
      have HB1 : Hid (Blk (wr.alloc (.cells (boC len (fun _ => false)) 4)) wr.heap.size 4 (boC len (ancK f i (ancG f i) 0))) := Lib.hid (Blkf.new_at _ _ _ _ rfl)
      have c1 : (wr.alloc (.cells (boC len (fun _ => false)) 4)).cell? ⟨b, o + i * 16 + 1, none⟩ = some (.int .i64 (f i).node) := (HR1.out.e.cell (p := ⟨b, o + i * 16 + 1, none⟩) hbl).trans ((hcc i hil).1 1 _ (by rw [Array.getElem?_toList]; exact (hcc i hil).2.node))
      have hbl1 : b < (wr.alloc (.cells (boC len (fun _ => false)) 4)).heap.size := Nat.lt_of_lt_of_le hbl HR1.out.e.size
      clear hcc hbl HR
      have HFIN : Hid (∀ (w' : World), RowsAt W w' ob G len i (ancG f i) → Blk w' wr.heap.size 4 (boC len (ancG f (i + 1) i)) → RowsAt W (w'.setCell ⟨ob, i, none⟩ (.slice (some ⟨wr.heap.size, 0, none⟩) len len)) ob (fun j => if j = i then wr.heap.size else G j) len (i + 1) (ancG f (i + 1))) := Lib.hid (fun w' h hb => by
        have hl := HLO.out
        have hk : Keeps (fun b => b = ob) w' (w'.setCell ⟨ob, i, none⟩ (.slice (some ⟨wr.heap.size, 0, none⟩) len len)) := (Keeps.refl (fun b => b = ob) w').setCell (p := ⟨ob, i, none⟩) (.inl rfl) _
        refine ⟨?_, fun j hj => ?_, h.ob, fun j hj => ?_, Below.trans h.e (hk.below (fun b e => by rw [e]; exact h.ob) h.e.size)⟩
        · have h1 := h.out.set_ i (.slice (some ⟨wr.heap.size, 0, none⟩) len len)
          rw [vC_set _ _ hil] at h1
          have e : (fun j => if j = i then Value.slice (some ⟨wr.heap.size, 0, none⟩) len len else outV G len i j) = outV (fun j => if j = i then wr.heap.size else G j) len (i + 1) := by
            funext j
            unfold outV
            by_cases e : j = i
            · subst e; simp
            · by_cases h2 : j < i
              · simp [e, h2, show j < i + 1 by omega]
              · simp [e, h2, show ¬ j < i + 1 by omega]
          rw [e] at h1
          exact h1
        · by_cases e : j = i
          · subst e
            simp only [if_true]
            exact hk.blk hb (by omega)
          · simp only [if_neg e]
            have h1 := h.row j (by omega)
            have : ancG f (i + 1) j = ancG f i j := by rw [ancG]; simp only [if_neg e]
            rw [this]
            exact hk.blk h1 (blk_ne_blk h1 h.out (by decide))
        · by_cases e : j = i
          · simp only [if_pos e]; exact hl.2.2
          · simp only [if_neg e]; exact h.lo j (by omega))
      go_upto_region 6 with fail
      generalize wr.alloc (.cells (boC len (fun _ => false)) 4) = w2 at *
      generalize hrb : wr.heap.size = rb at *
      clear hrb
      rcases ok3 (f i) with ⟨h1, ho⟩ | ⟨h1, h2, ho⟩ | ⟨h1, h2, ho⟩
      · have HG : Hid (ancG f (i + 1) i = ancK f i (ancG f i) 0) := Lib.hid (by rw [ancG]; simp [ho, ancK])
        have oc : w2.cell? ⟨ob, i, none⟩ = some (.slice none 0 0) := (HR1.out.out.cell i).trans ((vC_get _ hil).trans (by unfold outV; rw [if_neg (by omega)]))
        have ol := HR1.out.out.lt
        have of_ := Blk.frozen HR1.out.out i
        go_wp2_with fail
        go_roundw
        case rel => exact ⟨i + 1, hil, by go_num, _, HFIN.out _ HR1.out (by rw [HG.out]; exact HB1.out)⟩
        case measure => simp [intOf]; omega
      · have HG : Hid (ancG f (i + 1) i = ancK f i (ancG f i) 0) := Lib.hid (by rw [ancG]; simp [ho, ancK])
        have oc : w2.cell? ⟨ob, i, none⟩ = some (.slice none 0 0) := (HR1.out.out.cell i).trans ((vC_get _ hil).trans (by unfold outV; rw [if_neg (by omega)]))
        have ol := HR1.out.out.lt
        have of_ := Blk.frozen HR1.out.out i
        go_wp2_with fail
        go_roundw
        case rel => exact ⟨i + 1, hil, by go_num, _, HFIN.out _ HR1.out (by rw [HG.out]; exact HB1.out)⟩
        case measure => simp [intOf]; omega
      · have HG : Hid (ancG f (i + 1) i = ancK f i (ancG f i) i) := Lib.hid (by rw [ancG]; simp [ho])
        go_wp2_with fail
        clear c1 h1 h2
        go_loopw [6] (fun q wx => ∃ k : Nat, k ≤ i ∧ q = .int .i64 (k : Int) ∧ RowsAt W wx ob G len i (ancG f i) ∧ Blk wx rb 4 (boC len (ancK f i (ancG f i) k))) (fun q _ => i - (intOf q).toNat)
        case atStart => exact ⟨0, by omega, rfl, HR1.out, HB1.out⟩
        clear HR1 HB1
        case round =>
          obtain ⟨k, hk, rfl, hR, hB⟩ := hrel
          rename World => wx
          have HR := Lib.hid hR
          have HB := Lib.hid hB
          clear hR hB
          by_cases hki : k < i
          · have hkl : k < len := by omega
            have hik : (k : Int) < (i : Int) := by omega
            have hkk : (k : Int) < (len : Int) := by omega
            have hE := HR.out.e
            have sN : ∀ j, j < len → ∀ W', Ext wx.drew W' → W'.cell? ⟨b, o + j * 16 + 1, none⟩ = some (.int .i64 (f j).node) := fun j hj W' h => (h.cell (p := ⟨b, o + j * 16 + 1, none⟩) (Nat.lt_of_lt_of_le HBK.out hE.size)).trans ((hE.cell (p := ⟨b, o + j * 16 + 1, none⟩) HBK.out).trans ((HCC.out j hj).1 1 _ (by rw [Array.getElem?_toList]; exact (HCC.out j hj).2.node)))
            have sR : ∀ j, j < len → ∀ W', Ext wx.drew W' → W'.rangeAt b (o + j * 16) (C j).toList := fun j hj W' h t v ht => (h.cell (p := ⟨b, o + j * 16 + t, none⟩) (Nat.lt_of_lt_of_le HBK.out hE.size)).trans ((hE.cell (p := ⟨b, o + j * 16 + t, none⟩) HBK.out).trans ((HCC.out j hj).1 t v ht))
            have si := sN i hil
            have sk := sN k hkl
            clear hE sN
            go_wp2_with fail
            rcases ok3 (f k) with ⟨g1, gk⟩ | ⟨g1, g2, gk⟩ | ⟨g1, g2, gk⟩
            · have HR9 := Lib.hid (HR.out.below (show Ext wx wx.drew from (Below.refl _ _).drew))
              have HB9 := Lib.hid HB.out.drew
              have HK : Hid (ancK f i (ancG f i) (k + 1) = ancK f i (ancG f i) k) := Lib.hid (by rw [ancK, if_neg (by simp [predB, gk])])
              refine wp_region_plan [(0, false), (1, false), (2, false), (3, false), (4, false), (5, false), (6, false), (7, false), (8, false), (9, false), (10, false), (11, false), (12, false), (13, false), (14, false), (15, false), (16, false), (17, false), (18, false), (19, false), (20, false), (21, false), (22, false), (23, false), (24, false), (25, false), (26, false), (27, false), (28, false), (29, false), (30, false), (31, false), (32, false), (33, false), (34, false), (35, false), (36, false), (37, false)] (by kernel_rfl) (by kernel_rfl) (fun _ d _ _ _ h => by cases d <;> exact h) ?_
              iterate 5 (refine plan_take (v := ?_) rfl (by kernel_rfl) ?_ ?_; rotate_left; (focus (intro w' hw'; try go_simp; try with_reducible rfl)); simp only [Act.put, List.setIfInBounds_toArray, List.set_cons_zero, List.set_cons_succ])
              refine plan_take (v := .bool false) rfl (by kernel_rfl) (fun w' hw' => by go_simp <;> first | (simp [g1]; done) | omega) ?_
              simp only [Act.put, List.setIfInBounds_toArray, List.set_cons_zero, List.set_cons_succ]
              iterate 1 (refine plan_take (v := ?_) rfl (by kernel_rfl) ?_ ?_; rotate_left; (focus (intro w' hw'; try go_simp; try with_reducible rfl)); simp only [Act.put, List.setIfInBounds_toArray, List.set_cons_zero, List.set_cons_succ])
              iterate 6 (refine plan_skip rfl (by kernel_rfl) ?_; simp only [Act.put, List.setIfInBounds_toArray, List.set_cons_zero, List.set_cons_succ])
              iterate 2 (refine plan_take (v := ?_) rfl (by kernel_rfl) ?_ ?_; rotate_left; (focus (intro w' hw'; try go_simp; try with_reducible rfl)); simp only [Act.put, List.setIfInBounds_toArray, List.set_cons_zero, List.set_cons_succ])
              iterate 12 (refine plan_skip rfl (by kernel_rfl) ?_; simp only [Act.put, List.setIfInBounds_toArray, List.set_cons_zero, List.set_cons_succ])
              iterate 9 (refine plan_skip rfl (by kernel_rfl) ?_; simp only [Act.put, List.setIfInBounds_toArray, List.set_cons_zero, List.set_cons_succ])
              iterate 1 (refine plan_skip rfl (by kernel_rfl) ?_; simp only [Act.put, List.setIfInBounds_toArray, List.set_cons_zero, List.set_cons_succ])
              iterate 1 (refine plan_take (v := ?_) rfl (by kernel_rfl) ?_ ?_; rotate_left; (focus (intro w' hw'; try go_simp; try with_reducible rfl)); simp only [Act.put, List.setIfInBounds_toArray, List.set_cons_zero, List.set_cons_succ])
              refine plan_end ?_
              clear si sk sR
              go_wp2_with fail
              go_roundw
              case rel => exact ⟨k + 1, by omega, by go_num, HR9.out, by rw [HK.out]; exact HB9.out⟩
              case measure => simp [intOf]; omega
            · have HR9 := Lib.hid (HR.out.below (show Ext wx wx.drew from (Below.refl _ _).drew))
              have HB9 := Lib.hid HB.out.drew
              have HK : Hid (ancK f i (ancG f i) (k + 1) = ancK f i (ancG f i) k) := Lib.hid (by rw [ancK, if_neg (by simp [predB, gk])])
              refine wp_region_plan [(0, false), (1, false), (2, false), (3, false), (4, false), (5, false), (6, false), (7, false), (8, false), (9, false), (10, false), (11, false), (12, false), (13, false), (14, false), (15, false), (16, false), (17, false), (18, false), (19, false), (20, false), (21, false), (22, false), (23, false), (24, false), (25, false), (26, false), (27, false), (28, false), (29, false), (30, false), (31, false), (32, false), (33, false), (34, false), (35, false), (36, false), (37, false)] (by kernel_rfl) (by kernel_rfl) (fun _ d _ _ _ h => by cases d <;> exact h) ?_
              iterate 5 (refine plan_take (v := ?_) rfl (by kernel_rfl) ?_ ?_; rotate_left; (focus (intro w' hw'; try go_simp; try with_reducible rfl)); simp only [Act.put, List.setIfInBounds_toArray, List.set_cons_zero, List.set_cons_succ])
              refine plan_take (v := .bool true) rfl (by kernel_rfl) (fun w' hw' => by go_simp <;> first | (simp [g1]; done) | omega) ?_
              simp only [Act.put, List.setIfInBounds_toArray, List.set_cons_zero, List.set_cons_succ]
              iterate 6 (refine plan_take (v := ?_) rfl (by kernel_rfl) ?_ ?_; rotate_left; (focus (intro w' hw'; try go_simp; try with_reducible rfl)); simp only [Act.put, List.setIfInBounds_toArray, List.set_cons_zero, List.set_cons_succ])
              refine plan_take (v := .bool false) rfl (by kernel_rfl) (fun w' hw' => by go_simp <;> first | (simp [g2]; done) | omega) ?_
              simp only [Act.put, List.setIfInBounds_toArray, List.set_cons_zero, List.set_cons_succ]
              iterate 2 (refine plan_take (v := ?_) rfl (by kernel_rfl) ?_ ?_; rotate_left; (focus (intro w' hw'; try go_simp; try with_reducible rfl)); simp only [Act.put, List.setIfInBounds_toArray, List.set_cons_zero, List.set_cons_succ])
              iterate 12 (refine plan_skip rfl (by kernel_rfl) ?_; simp only [Act.put, List.setIfInBounds_toArray, List.set_cons_zero, List.set_cons_succ])
              iterate 9 (refine plan_skip rfl (by kernel_rfl) ?_; simp only [Act.put, List.setIfInBounds_toArray, List.set_cons_zero, List.set_cons_succ])
              iterate 1 (refine plan_skip rfl (by kernel_rfl) ?_; simp only [Act.put, List.setIfInBounds_toArray, List.set_cons_zero, List.set_cons_succ])
              iterate 1 (refine plan_take (v := ?_) rfl (by kernel_rfl) ?_ ?_; rotate_left; (focus (intro w' hw'; try go_simp; try with_reducible rfl)); simp only [Act.put, List.setIfInBounds_toArray, List.set_cons_zero, List.set_cons_succ])
              refine plan_end ?_
              clear si sk sR
              go_wp2_with fail
              go_roundw
              case rel => exact ⟨k + 1, by omega, by go_num, HR9.out, by rw [HK.out]; exact HB9.out⟩
              case measure => simp [intOf]; omega
            · by_cases hq : (f k).node = (f i).node
              · have HR9 := Lib.hid (HR.out.below (show Ext wx wx.drew from (Below.refl _ _).drew))
                have HB9 := Lib.hid HB.out.drew
                have HK : Hid (ancK f i (ancG f i) (k + 1) = fun j => if j = k then true else if j < k then ancK f i (ancG f i) k j || ancG f i k j else ancK f i (ancG f i) k j) := Lib.hid (by rw [ancK, if_pos (by simp [predB, gk, hq])])
                refine wp_region_plan [(0, false), (1, false), (2, false), (3, false), (4, false), (5, false), (6, false), (7, false), (8, false), (9, false), (10, false), (11, false), (12, false), (13, false), (14, false), (15, false), (16, false), (17, false), (18, false), (19, false), (20, false), (21, false), (22, false), (23, false), (24, false), (25, false), (26, false), (27, false), (28, false), (29, false), (30, false), (31, false), (32, false), (33, false), (34, false), (35, false), (36, false), (37, false)] (by kernel_rfl) (by kernel_rfl) (fun _ d _ _ _ h => by cases d <;> exact h) ?_
                iterate 5 (refine plan_take (v := ?_) rfl (by kernel_rfl) ?_ ?_; rotate_left; (focus (intro w' hw'; try go_simp; try with_reducible rfl)); simp only [Act.put, List.setIfInBounds_toArray, List.set_cons_zero, List.set_cons_succ])
                refine plan_take (v := .bool true) rfl (by kernel_rfl) (fun w' hw' => by go_simp <;> first | (simp [g1]; done) | omega) ?_
                simp only [Act.put, List.setIfInBounds_toArray, List.set_cons_zero, List.set_cons_succ]
                iterate 6 (refine plan_take (v := ?_) rfl (by kernel_rfl) ?_ ?_; rotate_left; (focus (intro w' hw'; try go_simp; try with_reducible rfl)); simp only [Act.put, List.setIfInBounds_toArray, List.set_cons_zero, List.set_cons_succ])
                refine plan_take (v := .bool true) rfl (by kernel_rfl) (fun w' hw' => by go_simp <;> first | (simp [g2]; done) | omega) ?_
                simp only [Act.put, List.setIfInBounds_toArray, List.set_cons_zero, List.set_cons_succ]
                iterate 12 (refine plan_take (v := ?_) rfl (by kernel_rfl) ?_ ?_; rotate_left; (focus (intro w' hw'; try go_simp; try with_reducible rfl)); simp only [Act.put, List.setIfInBounds_toArray, List.set_cons_zero, List.set_cons_succ])
                refine plan_take (v := .bool true) rfl (by kernel_rfl) (fun w' hw' => by go_simp <;> first | (simp [hq]; done) | omega) ?_
                simp only [Act.put, List.setIfInBounds_toArray, List.set_cons_zero, List.set_cons_succ]
                iterate 1 (refine plan_take (v := ?_) rfl (by kernel_rfl) ?_ ?_; rotate_left; (focus (intro w' hw'; try go_simp; try with_reducible rfl)); simp only [Act.put, List.setIfInBounds_toArray, List.set_cons_zero, List.set_cons_succ])
                iterate 9 (refine plan_skip rfl (by kernel_rfl) ?_; simp only [Act.put, List.setIfInBounds_toArray, List.set_cons_zero, List.set_cons_succ])
                iterate 2 (refine plan_take (v := ?_) rfl (by kernel_rfl) ?_ ?_; rotate_left; (focus (intro w' hw'; try go_simp; try with_reducible rfl)); simp only [Act.put, List.setIfInBounds_toArray, List.set_cons_zero, List.set_cons_succ])
                refine plan_end ?_
                clear si sk sR
                generalize ancK f i (ancG f i) k = r at *
                have rc := (HB9.out.cell k).trans (vC_get _ hkl)
                have rl := HB9.out.lt
                have rf := Blk.frozen HB9.out k
                have rl2 := HLO.out
                have HU : Hid (RowsAt W (wx.drew.setCell ⟨rb, k, none⟩ (.bool true)) ob G len i (ancG f i) ∧ Blk (wx.drew.setCell ⟨rb, k, none⟩ (.bool true)) rb 4 (boC len (fun j => if j = k then true else if j < 0 then r j || ancG f i k j else r j))) := Lib.hid (by
                  refine ⟨HR9.out.keep ((Keeps.refl (fun b => b = rb) _).setCell (p := ⟨rb, k, none⟩) (.inl rfl) _) rl2.1 rl2.2.1 rl2.2.2, ?_⟩
                  have h1 := HB9.out.set_ k (.bool true)
                  rw [vC_set _ _ hkl] at h1
                  have e : (fun j => if j = k then Value.bool true else Value.bool (r j)) = fun j => Value.bool (if j = k then true else if j < 0 then r j || ancG f i k j else r j) := by
                    funext j; by_cases e : j = k <;> simp [e]
                  rw [e] at h1
                  exact h1)
                go_wp2_with fail
                clear rc rl rf rl2
                go_loopw [7] (fun q wy => ∃ t : Nat, t ≤ k ∧ q = .int .i64 (t : Int) ∧ RowsAt W wy ob G len i (ancG f i) ∧ Blk wy rb 4 (boC len (fun j => if j = k then true else if j < t then r j || ancG f i k j else r j))) (fun q _ => k - (intOf q).toNat)
                case atStart => exact ⟨0, by omega, rfl, HU.out.1, HU.out.2⟩
                clear HU
                case round =>
                  obtain ⟨t, ht, rfl, hR, hB⟩ := hrel
                  rename World => wy
                  have HRy := Lib.hid hR
                  have HBy := Lib.hid hB
                  clear hR hB
                  by_cases htk : t < k
                  · have htl : t < len := by omega
                    have hti : (t : Int) < (k : Int) := by omega
                    have hti2 : (t : Int) < (len : Int) := by omega
                    have rc : wy.cell? ⟨rb, t, none⟩ = some (.bool (r t)) := (HBy.out.cell t).trans ((vC_get _ htl).trans (by simp [show ¬ t = k by omega]))
                    have rl := HBy.out.lt
                    have rf := Blk.frozen HBy.out t
                    have gc : wy.cell? ⟨G k, t, none⟩ = some (.bool (ancG f i k t)) := ((HRy.out.row k hki).cell t).trans (vC_get _ htl)
                    have gl := (HRy.out.row k hki).lt
                    have oc : wy.cell? ⟨ob, k, none⟩ = some (.slice (some ⟨G k, 0, none⟩) len len) := (HRy.out.out.cell k).trans ((vC_get _ hkl).trans (by unfold outV; rw [if_pos hki]))
                    have ol := HRy.out.out.lt
                    have HV : Hid (∀ q, q = (r t || ancG f i k t) → RowsAt W (wy.setCell ⟨rb, t, none⟩ (.bool q)) ob G len i (ancG f i) ∧ Blk (wy.setCell ⟨rb, t, none⟩ (.bool q)) rb 4 (boC len (fun j => if j = k then true else if j < t + 1 then r j || ancG f i k j else r j))) := Lib.hid (fun q hq => by
                      have rl2 := HLO.out
                      refine ⟨HRy.out.keep ((Keeps.refl (fun b => b = rb) _).setCell (p := ⟨rb, t, none⟩) (.inl rfl) _) rl2.1 rl2.2.1 rl2.2.2, ?_⟩
                      have h1 := HBy.out.set_ t (.bool q)
                      rw [vC_set _ _ htl] at h1
                      have e : (fun j => if j = t then Value.bool q else Value.bool (if j = k then true else if j < t then r j || ancG f i k j else r j)) = fun j => Value.bool (if j = k then true else if j < t + 1 then r j || ancG f i k j else r j) := by
                        funext j
                        by_cases e : j = t
                        · subst e
                          rw [if_pos rfl, if_neg (show ¬ j = k by omega), if_pos (by omega), hq]
                        · rw [if_neg e]
                          by_cases e2 : j = k
                          · simp [e2]
                          · rw [if_neg e2, if_neg e2]
                            by_cases h3 : j < t
                            · rw [if_pos h3, if_pos (by omega)]
                            · rw [if_neg h3, if_neg (by omega)]
                      rw [e] at h1
                      exact h1)
                    cases hrt : r t with
                    | true =>
                      have HF := Lib.hid (HV.out true (by rw [hrt]; rfl))
                      rw [hrt] at rc
                      clear HV
                      go_wp2_with fail
                      go_roundw
                      case rel => exact ⟨t + 1, htk, by go_num, HF.out.1, HF.out.2⟩
                      case measure => simp [intOf]; omega
                    | false =>
                      have HF := Lib.hid (HV.out (ancG f i k t) (by rw [hrt]; rfl))
                      rw [hrt] at rc
                      clear HV
                      generalize ancG f i k t = gq at *
                      go_wp2_with fail
                      go_roundw
                      case rel => exact ⟨t + 1, htk, by go_num, HF.out.1, HF.out.2⟩
                      case measure => simp [intOf]; omega
                  · obtain rfl : t = k := by omega
                    go_wp2_with fail
                    go_roundw
                    case rel => exact ⟨t + 1, by omega, by go_num, HRy.out, by rw [HK.out]; exact HBy.out⟩
                    case measure => simp [intOf]; omega
              · skip
                refine wp_region_plan [(0, false), (1, false), (2, false), (3, false), (4, false), (5, false), (6, false), (7, false), (8, false), (9, false), (10, false), (11, false), (12, false), (13, false), (14, false), (15, false), (16, false), (17, false), (18, false), (19, false), (20, false), (21, false), (22, false), (23, false), (24, false), (25, false), (26, false), (27, false), (28, false), (29, false), (30, false), (31, false), (32, false), (33, false), (34, false), (35, true), (36, false), (37, false)] (by kernel_rfl) (by kernel_rfl) (fun _ d _ _ _ h => by cases d <;> exact h) ?_
                iterate 5 (refine plan_take (v := ?_) rfl (by kernel_rfl) ?_ ?_; rotate_left; (focus (intro w' hw'; try go_simp; try with_reducible rfl)); simp only [Act.put, List.setIfInBounds_toArray, List.set_cons_zero, List.set_cons_succ])
                refine plan_take (v := .bool true) rfl (by kernel_rfl) (fun w' hw' => by go_simp <;> first | (simp [g1]; done) | omega) ?_
                simp only [Act.put, List.setIfInBounds_toArray, List.set_cons_zero, List.set_cons_succ]
                iterate 6 (refine plan_take (v := ?_) rfl (by kernel_rfl) ?_ ?_; rotate_left; (focus (intro w' hw'; try go_simp; try with_reducible rfl)); simp only [Act.put, List.setIfInBounds_toArray, List.set_cons_zero, List.set_cons_succ])
                refine plan_take (v := .bool true) rfl (by kernel_rfl) (fun w' hw' => by go_simp <;> first | (simp [g2]; done) | omega) ?_
                simp only [Act.put, List.setIfInBounds_toArray, List.set_cons_zero, List.set_cons_succ]
                iterate 12 (refine plan_take (v := ?_) rfl (by kernel_rfl) ?_ ?_; rotate_left; (focus (intro w' hw'; try go_simp; try with_reducible rfl)); simp only [Act.put, List.setIfInBounds_toArray, List.set_cons_zero, List.set_cons_succ])
                refine plan_take (v := .bool false) rfl (by kernel_rfl) (fun w' hw' => by go_simp <;> first | (simp [hq]; done) | omega) ?_
                simp only [Act.put, List.setIfInBounds_toArray, List.set_cons_zero, List.set_cons_succ]
                iterate 4 (refine plan_take (v := ?_) rfl (by kernel_rfl) ?_ ?_; rotate_left; (focus (intro w' hw'; try go_simp; try with_reducible rfl)); simp only [Act.put, List.setIfInBounds_toArray, List.set_cons_zero, List.set_cons_succ])
                refine plan_take (v := .agg (C i)) rfl (by kernel_rfl) (fun w' hw' => run_load_op 40 (.tmp 67) rfl b (o + i * 16) _ rfl (sR i (by omega) w' hw') (HCC.out i (by omega)).2.row) ?_
                simp only [Act.put, List.setIfInBounds_toArray, List.set_cons_zero, List.set_cons_succ]
                iterate 3 (refine plan_take (v := ?_) rfl (by kernel_rfl) ?_ ?_; rotate_left; (focus (intro w' hw'; try go_simp; try with_reducible rfl)); simp only [Act.put, List.setIfInBounds_toArray, List.set_cons_zero, List.set_cons_succ])
                refine plan_take (v := .agg (C k)) rfl (by kernel_rfl) (fun w' hw' => run_load_op 40 (.tmp 71) rfl b (o + k * 16) _ rfl (sR k (by omega) w' hw') (HCC.out k (by omega)).2.row) ?_
                simp only [Act.put, List.setIfInBounds_toArray, List.set_cons_zero, List.set_cons_succ]
                refine plan_call rfl (by kernel_rfl) (by go_simp; exact ⟨rfl, rfl⟩) ?_
                refine (rmeet_any (C i) (C k) (f i) (f k) _ (HCC.out i hil).2 (HCC.out k hkl).2).mono ?_
                rintro e v5 ⟨rfl, hb5⟩
                refine ⟨_, rfl, hb5, ?_⟩
                simp only [Act.put, List.setIfInBounds_toArray, List.set_cons_zero, List.set_cons_succ]
                have HR9 := Lib.hid (HR.out.below (Ext.trans (show Ext wx wx.drew from (Below.refl _ _).drew) hb5))
                have HB9 := Lib.hid (Blkf.below HB.out.drew hb5 HB.out.drew.lt)
                clear hb5
                cases hm : meetB (f i) (f k) with
                | false =>
                  have HK : Hid (ancK f i (ancG f i) (k + 1) = ancK f i (ancG f i) k) := Lib.hid (by rw [ancK, if_neg (by simp [predB, gk, hq, hm])])
                  iterate 2 (refine plan_take (v := ?_) rfl (by kernel_rfl) ?_ ?_; rotate_left; (focus (intro w' hw'; try go_simp; try with_reducible rfl)); simp only [Act.put, List.setIfInBounds_toArray, List.set_cons_zero, List.set_cons_succ])
                  refine plan_end ?_
                  clear si sk sR
                  go_wp2_with fail
                  go_roundw
                  case rel => exact ⟨k + 1, by omega, by go_num, HR9.out, by rw [HK.out]; exact HB9.out⟩
                  case measure => simp [intOf]; omega
                | true =>
                  have HK : Hid (ancK f i (ancG f i) (k + 1) = fun j => if j = k then true else if j < k then ancK f i (ancG f i) k j || ancG f i k j else ancK f i (ancG f i) k j) := Lib.hid (by rw [ancK, if_pos (by simp [predB, gk, hq, hm])])
                  iterate 2 (refine plan_take (v := ?_) rfl (by kernel_rfl) ?_ ?_; rotate_left; (focus (intro w' hw'; try go_simp; try with_reducible rfl)); simp only [Act.put, List.setIfInBounds_toArray, List.set_cons_zero, List.set_cons_succ])
                  refine plan_end ?_
                  clear si sk sR
                  generalize ancK f i (ancG f i) k = r at *
                  have rc := (HB9.out.cell k).trans (vC_get _ hkl)
                  have rl := HB9.out.lt
                  have rf := Blk.frozen HB9.out k
                  have rl2 := HLO.out
                  have HU : Hid (RowsAt W (v5.setCell ⟨rb, k, none⟩ (.bool true)) ob G len i (ancG f i) ∧ Blk (v5.setCell ⟨rb, k, none⟩ (.bool true)) rb 4 (boC len (fun j => if j = k then true else if j < 0 then r j || ancG f i k j else r j))) := Lib.hid (by
                    refine ⟨HR9.out.keep ((Keeps.refl (fun b => b = rb) _).setCell (p := ⟨rb, k, none⟩) (.inl rfl) _) rl2.1 rl2.2.1 rl2.2.2, ?_⟩
                    have h1 := HB9.out.set_ k (.bool true)
                    rw [vC_set _ _ hkl] at h1
                    have e : (fun j => if j = k then Value.bool true else Value.bool (r j)) = fun j => Value.bool (if j = k then true else if j < 0 then r j || ancG f i k j else r j) := by
                      funext j; by_cases e : j = k <;> simp [e]
                    rw [e] at h1
                    exact h1)
                  go_wp2_with fail
                  clear rc rl rf rl2
                  go_loopw [7] (fun q wy => ∃ t : Nat, t ≤ k ∧ q = .int .i64 (t : Int) ∧ RowsAt W wy ob G len i (ancG f i) ∧ Blk wy rb 4 (boC len (fun j => if j = k then true else if j < t then r j || ancG f i k j else r j))) (fun q _ => k - (intOf q).toNat)
                  case atStart => exact ⟨0, by omega, rfl, HU.out.1, HU.out.2⟩
                  clear HU
                  case round =>
                    obtain ⟨t, ht, rfl, hR, hB⟩ := hrel
                    rename World => wy
                    have HRy := Lib.hid hR
                    have HBy := Lib.hid hB
                    clear hR hB
                    by_cases htk : t < k
                    · have htl : t < len := by omega
                      have hti : (t : Int) < (k : Int) := by omega
                      have hti2 : (t : Int) < (len : Int) := by omega
                      have rc : wy.cell? ⟨rb, t, none⟩ = some (.bool (r t)) := (HBy.out.cell t).trans ((vC_get _ htl).trans (by simp [show ¬ t = k by omega]))
                      have rl := HBy.out.lt
                      have rf := Blk.frozen HBy.out t
                      have gc : wy.cell? ⟨G k, t, none⟩ = some (.bool (ancG f i k t)) := ((HRy.out.row k hki).cell t).trans (vC_get _ htl)
                      have gl := (HRy.out.row k hki).lt
                      have oc : wy.cell? ⟨ob, k, none⟩ = some (.slice (some ⟨G k, 0, none⟩) len len) := (HRy.out.out.cell k).trans ((vC_get _ hkl).trans (by unfold outV; rw [if_pos hki]))
                      have ol := HRy.out.out.lt
                      have HV : Hid (∀ q, q = (r t || ancG f i k t) → RowsAt W (wy.setCell ⟨rb, t, none⟩ (.bool q)) ob G len i (ancG f i) ∧ Blk (wy.setCell ⟨rb, t, none⟩ (.bool q)) rb 4 (boC len (fun j => if j = k then true else if j < t + 1 then r j || ancG f i k j else r j))) := Lib.hid (fun q hq => by
                        have rl2 := HLO.out
                        refine ⟨HRy.out.keep ((Keeps.refl (fun b => b = rb) _).setCell (p := ⟨rb, t, none⟩) (.inl rfl) _) rl2.1 rl2.2.1 rl2.2.2, ?_⟩
                        have h1 := HBy.out.set_ t (.bool q)
                        rw [vC_set _ _ htl] at h1
                        have e : (fun j => if j = t then Value.bool q else Value.bool (if j = k then true else if j < t then r j || ancG f i k j else r j)) = fun j => Value.bool (if j = k then true else if j < t + 1 then r j || ancG f i k j else r j) := by
                          funext j
                          by_cases e : j = t
                          · subst e
                            rw [if_pos rfl, if_neg (show ¬ j = k by omega), if_pos (by omega), hq]
                          · rw [if_neg e]
                            by_cases e2 : j = k
                            · simp [e2]
                            · rw [if_neg e2, if_neg e2]
                              by_cases h3 : j < t
                              · rw [if_pos h3, if_pos (by omega)]
                              · rw [if_neg h3, if_neg (by omega)]
                        rw [e] at h1
                        exact h1)
                      cases hrt : r t with
                      | true =>
                        have HF := Lib.hid (HV.out true (by rw [hrt]; rfl))
                        rw [hrt] at rc
                        clear HV
                        go_wp2_with fail
                        go_roundw
                        case rel => exact ⟨t + 1, htk, by go_num, HF.out.1, HF.out.2⟩
                        case measure => simp [intOf]; omega
                      | false =>
                        have HF := Lib.hid (HV.out (ancG f i k t) (by rw [hrt]; rfl))
                        rw [hrt] at rc
                        clear HV
                        generalize ancG f i k t = gq at *
                        go_wp2_with fail
                        go_roundw
                        case rel => exact ⟨t + 1, htk, by go_num, HF.out.1, HF.out.2⟩
                        case measure => simp [intOf]; omega
                    · obtain rfl : t = k := by omega
                      go_wp2_with fail
                      go_roundw
                      case rel => exact ⟨t + 1, by omega, by go_num, HRy.out, by rw [HK.out]; exact HBy.out⟩
                      case measure => simp [intOf]; omega
          · obtain rfl : k = i := by omega
            have HRZ := HR
            have oc : wx.cell? ⟨ob, k, none⟩ = some (.slice none 0 0) := (HR.out.out.cell k).trans ((vC_get _ hil).trans (by unfold outV; rw [if_neg (by omega)]))
            have ol := HR.out.out.lt
            have of_ := Blk.frozen HR.out.out k
            go_wp2_with fail
            go_roundw
            case rel => exact ⟨k + 1, hil, by go_num, _, HFIN.out _ HR.out (by rw [HG.out]; exact HB.out)⟩
            case measure => simp [intOf]; omega
    · obtain rfl : len = i := by omega
      go_wp2_with fail
      go_ret
      exact ⟨ob, G, rfl, HR.out⟩
end Go.Proofs.YtocjapnagggapaaDoor
