/- Merged texts: SpcI, SpcL, SpcM. -/
import Derived.Test.YtophcgbddccpeaaGreatSk17
/- A space is made. -/
namespace Go.Proofs.YtophcgbddccpeaaGreat
open Go.RowKit Go.Maps

def startS (k m : Nat) : SpS := ⟨updS emptyS 0 zeroL, emptyT k m, 1, 1, 0, fun _ => none, 0, fun _ => none⟩
def xs3 (a b c : Value) : Nat → Value := fun i => if i == 5 then a else if i == 6 then b else if i == 7 then c else undef
def spC (nc np ns gm : Nat) (sv tv : Value) (b ub : Nat) (vc vo : Value) (m1 m2 : Nat) : Array Value := #[.int .i64 (nc : Int), .int .i64 (np : Int), .int .i64 (ns : Int), .pointer (some ⟨gm, 0, none⟩), sv, tv, .pointer (some ⟨b, 0, none⟩), .pointer (some ⟨ub, 0, none⟩), vc, vo, .map (some m1), .map (some m2)]
def newL (sp ub b g tb sb m1 m2 k m n nc np ns base : Nat) (vc vo : Value) (cf ow : List Nat) (un : Un) : SpL := ⟨sp, ub, b, g, tb, sb, m1, m2, k, m, n, nc, np, ns, 0, base, vc, vo, cf, ow, un⟩
theorem row_frames (B n : Nat) (v : Value) (f : Nat → Nat) : rowO B 3 1 n v ((List.range n).map (fun i => nv (f i))) = rowO B 3 1 ((List.range n).map f).length v (((List.range n).map f).map nv) := by
  rw [List.map_map, List.length_map, List.length_range]
  rfl
section
variable {W w : World} {os : List Obj}
set_option maxRecDepth 100000 in
set_option maxHeartbeats 4000000 in
theorem space_new (nc np ns n k m : Nat) (h1 : 1 ≤ nc) (h2 : nc ≤ 16) (h3 : np ≤ 16) (h4 : ns ≤ 65536) (hn1 : 1 ≤ n) (hn : n ≤ 1048576) (hr : rightS k m = true) (P : SpL → SpS → Prop)
    (hst : ∀ L : SpL, L.n = n → L.root = 0 → L.nc = nc → L.np = np → L.ns = ns → L.k = k → L.m = m → ∃ st st2 : Nat → SpS, st 0 = startS k m ∧ (∀ i, i < nc → (st i).k < L.n ∧ (st i).u ≤ (st i).k ∧ (layStep L 65536 codeE i (st i)).1 = 0 ∧ st (i + 1) = (layStep L 65536 codeE i (st i)).2) ∧ st2 0 = st nc ∧
      (∀ i, i < np → (st2 i).k < L.n ∧ (st2 i).u ≤ (st2 i).k ∧ (layStep L 131072 ownE i (st2 i)).1 = 0 ∧ st2 (i + 1) = (layStep L 131072 ownE i (st2 i)).2) ∧
      ∀ vc vo base, P { L with vc := vc, vo := vo, base := base, cf := (List.range nc).map (fun i => (st i).k), ow := (List.range np).map (fun i => (st2 i).k), un := ⟨true, 1, 0, true, false, false⟩ } (st2 np))
    (h : Objs W os w) :
    Calls Tryz.prog 5 #[.agg #[.int .i64 (nc : Int), .int .i64 (np : Int), .int .i64 (ns : Int)], .int .i64 (n : Int), .int .i64 (k : Int), .int .i64 (m : Int)] w fun e w' => ∃ L s, e = .returned (.tuple #[.pointer (some ⟨L.sp, 0, none⟩), .int .i64 0]) ∧ P L s ∧ Objs W (spO L s os) w' := by
  have HST := Lib.hid hst
  have HSH := Lib.hid (fun w => shape_ok nc np ns w h1 h2 h3 h4)
  have HN := Lib.hid (And.intro hn1 hn)
  have HNC := Lib.hid (And.intro h2 h3)
  have HR := Lib.hid hr
  have HO0 := Lib.hid (h.push #[.int .i64 (nc : Int), .int .i64 (np : Int), .int .i64 (ns : Int)] 26 rfl)
  clear h hst h1 h2 h3 h4 hn1 hn hr
  obtain ⟨shb, hshb⟩ : ∃ q, q = w.heap.size := ⟨_, rfl⟩
  rw [← hshb] at HO0
  go_enter Tryz.func5, Tryz.ntmps5
  go_wp2_with fail
  rw [← hshb]
  clear hshb
  refine (HSH.out _).mono ?_
  rintro e w1 ⟨rfl, hw1⟩
  have ho1 := HO0.out.step (ext_alloc _ (.cells #[.int .i64 (nc : Int), .int .i64 (np : Int), .int .i64 (ns : Int)] 26))
  rw [hw1] at ho1
  have HO1 := Lib.hid ho1
  clear ho1 hw1 HO0
  go_wp2_with fail
  refine (HO1.out.memNew n HN.out.1 HN.out.2).mono ?_
  rintro e w2 ⟨g, rfl, ho2, _⟩
  have HO2 := Lib.hid ho2
  clear ho2
  go_wp2_with fail
  refine (HO2.out.bufNew k m HR.out).mono ?_
  rintro e w3 ⟨rfl, ho3, _⟩
  generalize w2.heap.size = b at *
  have HO3 := Lib.hid ho3
  have HO3D := Lib.hid ho3.drew
  clear ho3
  have hbk := HO3D.out.blk 2 rfl
  have s0 : ∀ w', Ext w3.drew w' → w'.cell? ⟨shb, 0, none⟩ = some (.int .i64 (nc : Int)) := fun w' hx => (hx.cell hbk.lt).trans (hbk.cell 0)
  have s1 : ∀ w', Ext w3.drew w' → w'.cell? ⟨shb, 1, none⟩ = some (.int .i64 (np : Int)) := fun w' hx => (hx.cell hbk.lt).trans (hbk.cell 1)
  have s2 : ∀ w', Ext w3.drew w' → w'.cell? ⟨shb, 2, none⟩ = some (.int .i64 (ns : Int)) := fun w' hx => (hx.cell hbk.lt).trans (hbk.cell 2)
  have hmm := @run_makeMap Tryz.prog
  clear hbk
  go_wp2_with fail
  refine wp_region_pt Ext later_ext (PT.steps [0, 1, 2, 3, 4] (.fork3 5 (.fork 6 (.turn 7 (.rest 3 (doneL 11 [0, 1, 2, 3, 4, 5, 6, 7]))) 7 (.turn 6 (.rest 3 (doneL 11 [0, 1, 2, 3, 4, 5, 6, 7])))) 6 (.fork 5 (.turn 7 (.rest 3 (doneL 11 [0, 1, 2, 3, 4, 5, 6, 7]))) 7 (.turn 5 (.rest 3 (doneL 11 [0, 1, 2, 3, 4, 5, 6, 7])))) 7 (.fork 5 (.turn 6 (.rest 3 (doneL 11 [0, 1, 2, 3, 4, 5, 6, 7]))) 6 (.turn 5 (.rest 3 (doneL 11 [0, 1, 2, 3, 4, 5, 6, 7])))))) (by kernel_rfl) (by kernel_rfl) (fun _ d _ _ _ h => by cases d <;> exact h) ?_
  unfold PT.steps
  iterate 5 (refine pt_take (v := ?_) rfl (by kernel_rfl) ?_ ?_; rotate_left; (focus (intro w' hw'; try go_simp; try with_reducible rfl)); simp only [Act.put, List.setIfInBounds_toArray, List.set_cons_zero, List.set_cons_succ])
  clear s0 s1 s2
  generalize w3.drew = y0 at HO3D ⊢
  refine pt_join (L := doneL 11 [0, 1, 2, 3, 4, 5, 6, 7]) (k := 3) (ds := [(5, some 39), (6, some 40), (7, some 41)]) (fun x wz => ∃ ub m1 m2, x 5 = .pointer (some ⟨ub, 0, none⟩) ∧ x 6 = .map (some m1) ∧ x 7 = .map (some m2) ∧ Objs W (blkO ub 89 (un0U.cs g b) :: mapO 3 m1 0 (fun _ => none) :: mapO 33 m2 0 (fun _ => none) :: bufO b k m (emptyT k m) :: memO g n emptyS :: blkO shb 26 #[.int .i64 (nc : Int), .int .i64 (np : Int), .int .i64 (ns : Int)] :: os) wz) (PT.steps [8] (.turn 9 (.step 10 .done))) (by kernel_rfl) later_ext (fun _ d _ _ _ h => by cases d <;> exact h) rfl (by kernel_rfl) ?_ ?_
  rotate_left
  · intro HEND
    have HD0 := HO3D
    refine pt_fork3 ?_ ?_ ?_
    focus
      refine pt_opcall (R := Ext) rfl (by kernel_rfl) (by go_simp; exact ⟨rfl, rfl⟩) ?_
      refine (mnew_any g b y0).mono ?_
      rintro e y1 ⟨rfl, hw⟩
      have HD1 := Lib.hid (HD0.out.push (un0U.cs g b) 89 rfl)
      have HX0 := Lib.hid (ext_alloc y0 (.cells (un0U.cs g b) 89))
      rw [hw] at HD1 HX0
      clear hw
      refine ⟨_, rfl, HX0.out, ?_⟩
      (try simp only [Act.put, List.setIfInBounds_toArray, List.set_cons_zero, List.set_cons_succ])
      refine pt_fork ?_ ?_
      focus
        refine pt_op (R := Ext) rfl (by kernel_rfl) (fun K hK => ?_)
        go_simp
        refine hK _ _ ⟨ext_alloc _ _, ?_⟩
        clear hK K
        have HD2 := Lib.hid (HD1.out.pushMap 3)
        generalize y1.alloc (.map #[] 0) = y2 at HD2 ⊢
        (try simp only [Act.put, List.setIfInBounds_toArray, List.set_cons_zero, List.set_cons_succ])
        refine pt_turn ?_
        refine pt_op (R := Ext) rfl (by kernel_rfl) (fun K hK => ?_)
        go_simp
        refine hK _ _ ⟨ext_alloc _ _, ?_⟩
        clear hK K
        have HD3 := Lib.hid (HD2.out.pushMap 33)
        generalize y2.alloc (.map #[] 0) = y3 at HD3 ⊢
        (try simp only [Act.put, List.setIfInBounds_toArray, List.set_cons_zero, List.set_cons_succ])
        have hfin := HEND (xs3 (.pointer (some ⟨y0.heap.size, 0, none⟩)) (.map (some y1.heap.size)) (.map (some y2.heap.size))) _ ⟨_, _, _, rfl, rfl, rfl, Objs.permA (xs := [mapO 33 y2.heap.size 0 (fun _ => none), mapO 3 y1.heap.size 0 (fun _ => none), blkO y0.heap.size 89 (un0U.cs g b)]) [2, 1, 0] HD3.out (by decide) (by simp)⟩
        simp only [fill, xs3, Nat.reduceBEq, Bool.false_eq_true, if_true, if_false, reduceIte, Act.put, List.setIfInBounds_toArray, List.set_cons_zero, List.set_cons_succ] at hfin ⊢
        exact hfin
      focus
        refine pt_op (R := Ext) rfl (by kernel_rfl) (fun K hK => ?_)
        go_simp
        refine hK _ _ ⟨ext_alloc _ _, ?_⟩
        clear hK K
        have HD2 := Lib.hid (HD1.out.pushMap 33)
        generalize y1.alloc (.map #[] 0) = y2 at HD2 ⊢
        (try simp only [Act.put, List.setIfInBounds_toArray, List.set_cons_zero, List.set_cons_succ])
        refine pt_turn ?_
        refine pt_op (R := Ext) rfl (by kernel_rfl) (fun K hK => ?_)
        go_simp
        refine hK _ _ ⟨ext_alloc _ _, ?_⟩
        clear hK K
        have HD3 := Lib.hid (HD2.out.pushMap 3)
        generalize y2.alloc (.map #[] 0) = y3 at HD3 ⊢
        (try simp only [Act.put, List.setIfInBounds_toArray, List.set_cons_zero, List.set_cons_succ])
        have hfin := HEND (xs3 (.pointer (some ⟨y0.heap.size, 0, none⟩)) (.map (some y2.heap.size)) (.map (some y1.heap.size))) _ ⟨_, _, _, rfl, rfl, rfl, Objs.permA (xs := [mapO 3 y2.heap.size 0 (fun _ => none), mapO 33 y1.heap.size 0 (fun _ => none), blkO y0.heap.size 89 (un0U.cs g b)]) [2, 0, 1] HD3.out (by decide) (by simp)⟩
        simp only [fill, xs3, Nat.reduceBEq, Bool.false_eq_true, if_true, if_false, reduceIte, Act.put, List.setIfInBounds_toArray, List.set_cons_zero, List.set_cons_succ] at hfin ⊢
        exact hfin
    focus
      refine pt_op (R := Ext) rfl (by kernel_rfl) (fun K hK => ?_)
      go_simp
      refine hK _ _ ⟨ext_alloc _ _, ?_⟩
      clear hK K
      have HD1 := Lib.hid (HD0.out.pushMap 3)
      generalize y0.alloc (.map #[] 0) = y1 at HD1 ⊢
      (try simp only [Act.put, List.setIfInBounds_toArray, List.set_cons_zero, List.set_cons_succ])
      refine pt_fork ?_ ?_
      focus
        refine pt_opcall (R := Ext) rfl (by kernel_rfl) (by go_simp; exact ⟨rfl, rfl⟩) ?_
        refine (mnew_any g b y1).mono ?_
        rintro e y2 ⟨rfl, hw⟩
        have HD2 := Lib.hid (HD1.out.push (un0U.cs g b) 89 rfl)
        have HX1 := Lib.hid (ext_alloc y1 (.cells (un0U.cs g b) 89))
        rw [hw] at HD2 HX1
        clear hw
        refine ⟨_, rfl, HX1.out, ?_⟩
        (try simp only [Act.put, List.setIfInBounds_toArray, List.set_cons_zero, List.set_cons_succ])
        refine pt_turn ?_
        refine pt_op (R := Ext) rfl (by kernel_rfl) (fun K hK => ?_)
        go_simp
        refine hK _ _ ⟨ext_alloc _ _, ?_⟩
        clear hK K
        have HD3 := Lib.hid (HD2.out.pushMap 33)
        generalize y2.alloc (.map #[] 0) = y3 at HD3 ⊢
        (try simp only [Act.put, List.setIfInBounds_toArray, List.set_cons_zero, List.set_cons_succ])
        have hfin := HEND (xs3 (.pointer (some ⟨y1.heap.size, 0, none⟩)) (.map (some y0.heap.size)) (.map (some y2.heap.size))) _ ⟨_, _, _, rfl, rfl, rfl, Objs.permA (xs := [mapO 33 y2.heap.size 0 (fun _ => none), blkO y1.heap.size 89 (un0U.cs g b), mapO 3 y0.heap.size 0 (fun _ => none)]) [1, 2, 0] HD3.out (by decide) (by simp)⟩
        simp only [fill, xs3, Nat.reduceBEq, Bool.false_eq_true, if_true, if_false, reduceIte, Act.put, List.setIfInBounds_toArray, List.set_cons_zero, List.set_cons_succ] at hfin ⊢
        exact hfin
      focus
        refine pt_op (R := Ext) rfl (by kernel_rfl) (fun K hK => ?_)
        go_simp
        refine hK _ _ ⟨ext_alloc _ _, ?_⟩
        clear hK K
        have HD2 := Lib.hid (HD1.out.pushMap 33)
        generalize y1.alloc (.map #[] 0) = y2 at HD2 ⊢
        (try simp only [Act.put, List.setIfInBounds_toArray, List.set_cons_zero, List.set_cons_succ])
        refine pt_turn ?_
        refine pt_opcall (R := Ext) rfl (by kernel_rfl) (by go_simp; exact ⟨rfl, rfl⟩) ?_
        refine (mnew_any g b y2).mono ?_
        rintro e y3 ⟨rfl, hw⟩
        have HD3 := Lib.hid (HD2.out.push (un0U.cs g b) 89 rfl)
        have HX2 := Lib.hid (ext_alloc y2 (.cells (un0U.cs g b) 89))
        rw [hw] at HD3 HX2
        clear hw
        refine ⟨_, rfl, HX2.out, ?_⟩
        (try simp only [Act.put, List.setIfInBounds_toArray, List.set_cons_zero, List.set_cons_succ])
        have hfin := HEND (xs3 (.pointer (some ⟨y2.heap.size, 0, none⟩)) (.map (some y0.heap.size)) (.map (some y1.heap.size))) _ ⟨_, _, _, rfl, rfl, rfl, Objs.permA (xs := [blkO y2.heap.size 89 (un0U.cs g b), mapO 33 y1.heap.size 0 (fun _ => none), mapO 3 y0.heap.size 0 (fun _ => none)]) [0, 2, 1] HD3.out (by decide) (by simp)⟩
        simp only [fill, xs3, Nat.reduceBEq, Bool.false_eq_true, if_true, if_false, reduceIte, Act.put, List.setIfInBounds_toArray, List.set_cons_zero, List.set_cons_succ] at hfin ⊢
        exact hfin
    focus
      refine pt_op (R := Ext) rfl (by kernel_rfl) (fun K hK => ?_)
      go_simp
      refine hK _ _ ⟨ext_alloc _ _, ?_⟩
      clear hK K
      have HD1 := Lib.hid (HD0.out.pushMap 33)
      generalize y0.alloc (.map #[] 0) = y1 at HD1 ⊢
      (try simp only [Act.put, List.setIfInBounds_toArray, List.set_cons_zero, List.set_cons_succ])
      refine pt_fork ?_ ?_
      focus
        refine pt_opcall (R := Ext) rfl (by kernel_rfl) (by go_simp; exact ⟨rfl, rfl⟩) ?_
        refine (mnew_any g b y1).mono ?_
        rintro e y2 ⟨rfl, hw⟩
        have HD2 := Lib.hid (HD1.out.push (un0U.cs g b) 89 rfl)
        have HX1 := Lib.hid (ext_alloc y1 (.cells (un0U.cs g b) 89))
        rw [hw] at HD2 HX1
        clear hw
        refine ⟨_, rfl, HX1.out, ?_⟩
        (try simp only [Act.put, List.setIfInBounds_toArray, List.set_cons_zero, List.set_cons_succ])
        refine pt_turn ?_
        refine pt_op (R := Ext) rfl (by kernel_rfl) (fun K hK => ?_)
        go_simp
        refine hK _ _ ⟨ext_alloc _ _, ?_⟩
        clear hK K
        have HD3 := Lib.hid (HD2.out.pushMap 3)
        generalize y2.alloc (.map #[] 0) = y3 at HD3 ⊢
        (try simp only [Act.put, List.setIfInBounds_toArray, List.set_cons_zero, List.set_cons_succ])
        have hfin := HEND (xs3 (.pointer (some ⟨y1.heap.size, 0, none⟩)) (.map (some y2.heap.size)) (.map (some y0.heap.size))) _ ⟨_, _, _, rfl, rfl, rfl, Objs.permA (xs := [mapO 3 y2.heap.size 0 (fun _ => none), blkO y1.heap.size 89 (un0U.cs g b), mapO 33 y0.heap.size 0 (fun _ => none)]) [1, 0, 2] HD3.out (by decide) (by simp)⟩
        simp only [fill, xs3, Nat.reduceBEq, Bool.false_eq_true, if_true, if_false, reduceIte, Act.put, List.setIfInBounds_toArray, List.set_cons_zero, List.set_cons_succ] at hfin ⊢
        exact hfin
      focus
        refine pt_op (R := Ext) rfl (by kernel_rfl) (fun K hK => ?_)
        go_simp
        refine hK _ _ ⟨ext_alloc _ _, ?_⟩
        clear hK K
        have HD2 := Lib.hid (HD1.out.pushMap 3)
        generalize y1.alloc (.map #[] 0) = y2 at HD2 ⊢
        (try simp only [Act.put, List.setIfInBounds_toArray, List.set_cons_zero, List.set_cons_succ])
        refine pt_turn ?_
        refine pt_opcall (R := Ext) rfl (by kernel_rfl) (by go_simp; exact ⟨rfl, rfl⟩) ?_
        refine (mnew_any g b y2).mono ?_
        rintro e y3 ⟨rfl, hw⟩
        have HD3 := Lib.hid (HD2.out.push (un0U.cs g b) 89 rfl)
        have HX2 := Lib.hid (ext_alloc y2 (.cells (un0U.cs g b) 89))
        rw [hw] at HD3 HX2
        clear hw
        refine ⟨_, rfl, HX2.out, ?_⟩
        (try simp only [Act.put, List.setIfInBounds_toArray, List.set_cons_zero, List.set_cons_succ])
        have hfin := HEND (xs3 (.pointer (some ⟨y2.heap.size, 0, none⟩)) (.map (some y1.heap.size)) (.map (some y0.heap.size))) _ ⟨_, _, _, rfl, rfl, rfl, Objs.permA (xs := [blkO y2.heap.size 89 (un0U.cs g b), mapO 3 y1.heap.size 0 (fun _ => none), mapO 33 y0.heap.size 0 (fun _ => none)]) [0, 1, 2] HD3.out (by decide) (by simp)⟩
        simp only [fill, xs3, Nat.reduceBEq, Bool.false_eq_true, if_true, if_false, reduceIte, Act.put, List.setIfInBounds_toArray, List.set_cons_zero, List.set_cons_succ] at hfin ⊢
        exact hfin
  rintro x wz ⟨ub, m1, m2, e5, e6, e7, hz⟩
  have HZ := Lib.hid hz
  clear hz HO3 HO3D
  simp only [fill, e5, e6, e7, Act.put, List.setIfInBounds_toArray, List.set_cons_zero, List.set_cons_succ]
  unfold PT.steps
  iterate 1 (refine pt_take (v := ?_) rfl (by kernel_rfl) ?_ ?_; rotate_left; (focus (intro w' hw'; try go_simp; try with_reducible rfl)); simp only [Act.put, List.setIfInBounds_toArray, List.set_cons_zero, List.set_cons_succ])
  unfold PT.steps
  refine pt_turn ?_
  refine pt_op (R := Ext) rfl (by kernel_rfl) (fun K hK => ?_)
  go_simp
  refine hK _ _ ⟨ext_alloc _ _, ?_⟩
  clear hK K
  obtain ⟨sp, hsp⟩ : ∃ q, q = wz.heap.size := ⟨_, rfl⟩
  have HO4 := Lib.hid (HZ.out.push (spC nc np ns g (.pointer none) (.pointer none) b ub (.slice none 0 0) (.slice none 0 0) m1 m2) 65 hsp)
  have hwz : wz.alloc (.cells #[.int .i64 (nc : Int), .int .i64 (np : Int), .int .i64 (ns : Int), .pointer (some ⟨g, 0, none⟩), .pointer none, .pointer none, .pointer (some ⟨b, 0, none⟩), .pointer (some ⟨ub, 0, none⟩), .slice none 0 0, .slice none 0 0, .map (some m1), .map (some m2)] 65) = wz.alloc (.cells (spC nc np ns g (.pointer none) (.pointer none) b ub (.slice none 0 0) (.slice none 0 0) m1 m2) 65) := rfl
  rw [← hsp, hwz]
  clear hwz hsp HZ
  generalize wz.alloc (.cells (spC nc np ns g (.pointer none) (.pointer none) b ub (.slice none 0 0) (.slice none 0 0) m1 m2) 65) = w4 at *
  (try simp only [Act.put, List.setIfInBounds_toArray, List.set_cons_zero, List.set_cons_succ])
  iterate 1 (refine pt_take (v := ?_) rfl (by kernel_rfl) ?_ ?_; rotate_left; (focus (intro w' hw'; try go_simp; try with_reducible rfl)); simp only [Act.put, List.setIfInBounds_toArray, List.set_cons_zero, List.set_cons_succ])
  refine pt_end ?_
  clear hmm
  go_wp2_with fail
  refine (HO4.out.stkNew g n HN.out.2).mono ?_
  rintro e w5 ⟨rfl, ho5, _⟩
  generalize w4.heap.size + 1 = sb at *
  have HO5 := Lib.hid (ho5.set_ 1 rfl 4 (.pointer (some ⟨sb, 0, none⟩)))
  have hbk := ho5.blk 1 rfl
  have d4 : w5.cell? ⟨sp, 4, none⟩ = some (.pointer none) := hbk.cell 4
  have hl := hbk.lt
  have hfr := fun i => Blk.frozen hbk i
  clear ho5 hbk
  go_upto_region 11 with fail
  generalize w5.setCell ⟨sp, 4, none⟩ (.pointer (some ⟨sb, 0, none⟩)) = w6 at *
  clear d4 hl hfr
  have hbk := HO5.out.blk 1 rfl
  have d4 : w6.cell? ⟨sp, 4, none⟩ = some (.pointer (some ⟨sb, 0, none⟩)) := hbk.cell 4
  have hl := hbk.lt
  clear hbk
  go_wp2_with fail
  have hp6 := Objs.permA (xs := [stkO (tc0 g sb n) 0, blkO sp 65 ((spC nc np ns g (.pointer none) (.pointer none) b ub (.slice none 0 0) (.slice none 0 0) m1 m2).setIfInBounds 4 (.pointer (some ⟨sb, 0, none⟩))), blkO ub 89 (un0U.cs g b), mapO 3 m1 0 (fun _ => none), mapO 33 m2 0 (fun _ => none), bufO b k m (emptyT k m), memO g n emptyS, blkO shb 26 #[.int .i64 (nc : Int), .int .i64 (np : Int), .int .i64 (ns : Int)]]) [6, 0, 1, 2, 3, 4, 5, 7] HO5.out (by decide) (by simp)
  refine (Objs.tabNew g sb n HN.out.1 hp6).mono ?_
  rintro e w7 ⟨rfl, ho7, _⟩
  clear hp6
  generalize w6.heap.size = tb at *
  have HO7 := Lib.hid ho7.untabs.1
  clear ho7
  have hbk := HO7.out.blk 3 rfl
  have d5 : w7.cell? ⟨sp, 5, none⟩ = some (.pointer none) := hbk.cell 5
  have hl7 := hbk.lt
  have hfr := fun i => Blk.frozen hbk i
  have HO8 := Lib.hid (HO7.out.set_ 3 rfl 5 (.pointer (some ⟨tb, 0, none⟩)))
  clear hbk d4 hl
  go_upto_region 14 with fail
  generalize w7.setCell ⟨sp, 5, none⟩ (.pointer (some ⟨tb, 0, none⟩)) = w8 at *
  clear d5 hl7 hfr
  have hs1 : Objs W (spO (newL sp ub b g tb sb m1 m2 k m n nc np ns W.heap.size (.slice none 0 0) (.slice none 0 0) [] [] un0U) (startS k m) (blkO shb 26 #[.int .i64 (nc : Int), .int .i64 (np : Int), .int .i64 (ns : Int)] :: os)) w8 :=
    Objs.permA (xs := [rowO W.heap.size 3 1 0 (.slice none 0 0) [], rowO W.heap.size 3 1 0 (.slice none 0 0) [], memO g n (updS emptyS 0 zeroL), blkO tb 117 (tabC ⟨tb, g, sb, n, 0, n, 0⟩ 1), stkO ⟨tb, g, sb, n, 0, n, 0⟩ 1, blkO sp 65 (((spC nc np ns g (.pointer none) (.pointer none) b ub (.slice none 0 0) (.slice none 0 0) m1 m2).setIfInBounds 4 (.pointer (some ⟨sb, 0, none⟩))).setIfInBounds 5 (.pointer (some ⟨tb, 0, none⟩))), blkO ub 89 (un0U.cs g b), mapO 3 m1 0 (fun _ => none), mapO 33 m2 0 (fun _ => none), bufO b k m (emptyT k m)]) (os := blkO shb 26 #[.int .i64 (nc : Int), .int .i64 (np : Int), .int .i64 (ns : Int)] :: os) [5, 6, 9, 2, 3, 4, 0, 1, 7, 8] ((HO8.out.row0 W.heap.size 3 1).row0 W.heap.size 3 1) (by decide) (by simp)
  clear HO8 HO7 HO5 HO4 HO2 HO1
  obtain ⟨st, st2, g0, g1, g2, g3, g4⟩ := HST.out (newL sp ub b g tb sb m1 m2 k m n nc np ns W.heap.size (.slice none 0 0) (.slice none 0 0) [] [] un0U) rfl rfl rfl rfl rfl rfl rfl
  rw [← g0] at hs1
  have HS1 := Lib.hid hs1
  have HG := Lib.hid (And.intro g1 (And.intro g2 (And.intro g3 g4)))
  have hbk := hs1.blk 10 rfl
  have d0 : w8.cell? ⟨shb, 0, none⟩ = some (.int .i64 (nc : Int)) := hbk.cell 0
  have hls := hbk.lt
  clear hs1 g0 g1 g2 g3 g4 hbk HST
  have HL : Hid (Calls Tryz.prog 23 #[.pointer (some ⟨sp, 0, none⟩), .int .u64 65536, .int .i64 (nc : Int), .string ⟨#[118, 114, 45, 120, 117, 45, 97, 45]⟩] w8 fun e w' => ∃ v, e = .returned (.tuple #[v, .int .i64 0]) ∧ Objs W (rowO W.heap.size 3 1 nc v ((List.range nc).map (fun i => nv (st i).k)) :: spO (newL sp ub b g tb sb m1 m2 k m n nc np ns W.heap.size (.slice none 0 0) (.slice none 0 0) [] [] un0U) (st nc) (blkO shb 26 #[.int .i64 (nc : Int), .int .i64 (np : Int), .int .i64 (ns : Int)] :: os)) w') :=
    Lib.hid (lay_any (L := newL sp ub b g tb sb m1 m2 k m n nc np ns W.heap.size (.slice none 0 0) (.slice none 0 0) [] [] un0U) 65536 nc ⟨#[118, 114, 45, 120, 117, 45, 97, 45]⟩ codeE st (by decide) HNC.out.1 (by show (0 : Nat) < 1048576; decide) HN.out.2 (fun f w hf => ⟨entF_wf _ _ _ _ _ _ _ _ hf, codeE_any f w hf⟩) HG.out.1 HS1.out)
  go_wp2_with fail
  refine HL.out.mono ?_
  rintro e w9 ⟨v, rfl, ho9⟩
  obtain ⟨vA, vc, hv⟩ := row_form (ho9.owns 0 rfl)
  subst hv
  clear d0 hls
  have hbk := ho9.blk 1 rfl
  have d8 : w9.cell? ⟨sp, 8, none⟩ = some (.slice none 0 0) := hbk.cell 8
  have hl : sp < w9.heap.size := hbk.lt
  have hfr : ∀ i, w9.frozen? ⟨sp, i, none⟩ = false := fun i => Blk.frozen hbk i
  rw [row_frames] at ho9
  have HO9 : Hid (Objs W ([rowO W.heap.size 3 1 ((List.range nc).map (fun i => (st i).k)).length (.slice vA nc vc) (((List.range nc).map (fun i => (st i).k)).map nv), blkO sp 65 ((newL sp ub b g tb sb m1 m2 k m n nc np ns W.heap.size (.slice none 0 0) (.slice none 0 0) [] [] un0U).cs.setIfInBounds 8 (.slice vA nc vc)), blkO ub 89 (un0U.cs g b), bufO b k m (st nc).T, memO g n (st nc).S, blkO tb 117 (tabC ⟨tb, g, sb, n, 0, n, 0⟩ (st nc).u), stkO ⟨tb, g, sb, n, 0, n, 0⟩ (st nc).k, rowO W.heap.size 3 1 0 (.slice none 0 0) [], rowO W.heap.size 3 1 0 (.slice none 0 0) [], mapO 3 m1 (st nc).ms (st nc).sh, mapO 33 m2 (st nc).mr (st nc).ri] ++ blkO shb 26 #[.int .i64 (nc : Int), .int .i64 (np : Int), .int .i64 (ns : Int)] :: os) (w9.setCell ⟨sp, 8, none⟩ (.slice vA nc vc))) := Lib.hid (ho9.set_ 1 rfl 8 (.slice vA nc vc))
  clear hbk ho9 HS1 HL
  go_upto_region 17 with fail
  generalize w9.setCell ⟨sp, 8, none⟩ (.slice vA nc vc) = w10 at *
  clear d8 hl hfr
  have hs2 : Objs W (spO (newL sp ub b g tb sb m1 m2 k m n nc np ns W.heap.size (.slice vA nc vc) (.slice none 0 0) ((List.range nc).map (fun i => (st i).k)) [] un0U) (st nc) (blkO shb 26 #[.int .i64 (nc : Int), .int .i64 (np : Int), .int .i64 (ns : Int)] :: os)) w10 := by
    have h9 := HO9.out
    exact Objs.permA (xs := [rowO W.heap.size 3 1 ((List.range nc).map (fun i => (st i).k)).length (.slice vA nc vc) (((List.range nc).map (fun i => (st i).k)).map nv), blkO sp 65 ((newL sp ub b g tb sb m1 m2 k m n nc np ns W.heap.size (.slice none 0 0) (.slice none 0 0) [] [] un0U).cs.setIfInBounds 8 (.slice vA nc vc)), blkO ub 89 (un0U.cs g b), bufO b k m (st nc).T, memO g n (st nc).S, blkO tb 117 (tabC ⟨tb, g, sb, n, 0, n, 0⟩ (st nc).u), stkO ⟨tb, g, sb, n, 0, n, 0⟩ (st nc).k, rowO W.heap.size 3 1 0 (.slice none 0 0) [], rowO W.heap.size 3 1 0 (.slice none 0 0) [], mapO 3 m1 (st nc).ms (st nc).sh, mapO 33 m2 (st nc).mr (st nc).ri]) (os := blkO shb 26 #[.int .i64 (nc : Int), .int .i64 (np : Int), .int .i64 (ns : Int)] :: os) [1, 2, 3, 4, 5, 6, 0, 8, 9, 10] h9 (by decide) (by simp)
  clear HO9
  rw [← HG.out.2.1] at hs2
  have HS2 := Lib.hid hs2
  have hbk := hs2.blk 10 rfl
  have d0 : w10.cell? ⟨shb, 1, none⟩ = some (.int .i64 (np : Int)) := hbk.cell 1
  have hls := hbk.lt
  clear hs2 hbk
  have HL : Hid (Calls Tryz.prog 23 #[.pointer (some ⟨sp, 0, none⟩), .int .u64 131072, .int .i64 (np : Int), .string ⟨#[118, 114, 119, 45, 117, 45, 97, 100]⟩] w10 fun e w' => ∃ v', e = .returned (.tuple #[v', .int .i64 0]) ∧ Objs W (rowO W.heap.size 3 1 np v' ((List.range np).map (fun i => nv (st2 i).k)) :: spO (newL sp ub b g tb sb m1 m2 k m n nc np ns W.heap.size (.slice vA nc vc) (.slice none 0 0) ((List.range nc).map (fun i => (st i).k)) [] un0U) (st2 np) (blkO shb 26 #[.int .i64 (nc : Int), .int .i64 (np : Int), .int .i64 (ns : Int)] :: os)) w') :=
    Lib.hid (lay_any (L := newL sp ub b g tb sb m1 m2 k m n nc np ns W.heap.size (.slice vA nc vc) (.slice none 0 0) ((List.range nc).map (fun i => (st i).k)) [] un0U) 131072 np ⟨#[118, 114, 119, 45, 117, 45, 97, 100]⟩ ownE st2 (by decide) HNC.out.2 (by show (0 : Nat) < 1048576; decide) HN.out.2 (fun f w hf => ⟨entF_wf _ _ _ _ _ _ _ _ hf, ownE_any f w hf⟩) HG.out.2.2.1 HS2.out)
  go_wp2_with fail
  refine HL.out.mono ?_
  rintro e w11 ⟨v2, rfl, ho11⟩
  obtain ⟨vA2, vc2, hv⟩ := row_form (ho11.owns 0 rfl)
  subst hv
  clear d0 hls
  have hbk := ho11.blk 1 rfl
  have d9 : w11.cell? ⟨sp, 9, none⟩ = some (.slice none 0 0) := hbk.cell 9
  have hl : sp < w11.heap.size := hbk.lt
  have hfr : ∀ i, w11.frozen? ⟨sp, i, none⟩ = false := fun i => Blk.frozen hbk i
  rw [row_frames] at ho11
  have HO11 : Hid (Objs W ([rowO W.heap.size 3 1 ((List.range np).map (fun i => (st2 i).k)).length (.slice vA2 np vc2) (((List.range np).map (fun i => (st2 i).k)).map nv), blkO sp 65 ((newL sp ub b g tb sb m1 m2 k m n nc np ns W.heap.size (.slice vA nc vc) (.slice none 0 0) ((List.range nc).map (fun i => (st i).k)) [] un0U).cs.setIfInBounds 9 (.slice vA2 np vc2)), blkO ub 89 (un0U.cs g b), bufO b k m (st2 np).T, memO g n (st2 np).S, blkO tb 117 (tabC ⟨tb, g, sb, n, 0, n, 0⟩ (st2 np).u), stkO ⟨tb, g, sb, n, 0, n, 0⟩ (st2 np).k, rowO W.heap.size 3 1 ((List.range nc).map (fun i => (st i).k)).length (.slice vA nc vc) (((List.range nc).map (fun i => (st i).k)).map nv), rowO W.heap.size 3 1 0 (.slice none 0 0) [], mapO 3 m1 (st2 np).ms (st2 np).sh, mapO 33 m2 (st2 np).mr (st2 np).ri] ++ blkO shb 26 #[.int .i64 (nc : Int), .int .i64 (np : Int), .int .i64 (ns : Int)] :: os) (w11.setCell ⟨sp, 9, none⟩ (.slice vA2 np vc2))) := Lib.hid (ho11.set_ 1 rfl 9 (.slice vA2 np vc2))
  clear hbk ho11 HS2 HL
  go_upto_region 20 with fail
  generalize w11.setCell ⟨sp, 9, none⟩ (.slice vA2 np vc2) = w12 at *
  clear d9 hl hfr
  have hs3 : Objs W (spO (newL sp ub b g tb sb m1 m2 k m n nc np ns W.heap.size (.slice vA nc vc) (.slice vA2 np vc2) ((List.range nc).map (fun i => (st i).k)) ((List.range np).map (fun i => (st2 i).k)) un0U) (st2 np) (blkO shb 26 #[.int .i64 (nc : Int), .int .i64 (np : Int), .int .i64 (ns : Int)] :: os)) w12 := by
    have h9 := HO11.out
    exact Objs.permA (xs := [rowO W.heap.size 3 1 ((List.range np).map (fun i => (st2 i).k)).length (.slice vA2 np vc2) (((List.range np).map (fun i => (st2 i).k)).map nv), blkO sp 65 ((newL sp ub b g tb sb m1 m2 k m n nc np ns W.heap.size (.slice vA nc vc) (.slice none 0 0) ((List.range nc).map (fun i => (st i).k)) [] un0U).cs.setIfInBounds 9 (.slice vA2 np vc2)), blkO ub 89 (un0U.cs g b), bufO b k m (st2 np).T, memO g n (st2 np).S, blkO tb 117 (tabC ⟨tb, g, sb, n, 0, n, 0⟩ (st2 np).u), stkO ⟨tb, g, sb, n, 0, n, 0⟩ (st2 np).k, rowO W.heap.size 3 1 ((List.range nc).map (fun i => (st i).k)).length (.slice vA nc vc) (((List.range nc).map (fun i => (st i).k)).map nv), rowO W.heap.size 3 1 0 (.slice none 0 0) [], mapO 3 m1 (st2 np).ms (st2 np).sh, mapO 33 m2 (st2 np).mr (st2 np).ri]) (os := blkO shb 26 #[.int .i64 (nc : Int), .int .i64 (np : Int), .int .i64 (ns : Int)] :: os) [1, 2, 3, 4, 5, 6, 7, 0, 9, 10] h9 (by decide) (by simp)
  clear HO11
  have HS3 := Lib.hid hs3.drew
  have hbk0 := hs3.drew.blk 0 rfl
  have hbk4 := hs3.drew.blk 4 rfl
  have s7 : ∀ w', SameL [sp, tb] w12.drew w' → w'.cell? ⟨sp, 7, none⟩ = some (.pointer (some ⟨ub, 0, none⟩)) := fun w' hs => hs.cell (by simp) (hbk0.cell 7)
  have s5 : ∀ w', SameL [sp, tb] w12.drew w' → w'.cell? ⟨sp, 5, none⟩ = some (.pointer (some ⟨tb, 0, none⟩)) := fun w' hs => hs.cell (by simp) (hbk0.cell 5)
  have HRT : Hid (∀ w', SameL [sp, tb] w12.drew w' → Calls Tryz.prog 26 #[.pointer (some ⟨tb, 0, none⟩)] w' fun e w'' => e = .returned (.int .i64 0) ∧ w' = w'') := Lib.hid (fun w' hs => root_cell tb 0 w' (hs.cell (by simp) (hbk4.cell 2)) (Blkf.lt (hs.blk (by simp) hbk4)))
  have hlsp : sp < w12.heap.size := hbk0.lt
  have hltb : tb < w12.heap.size := hbk4.lt
  have HLB := Lib.hid (And.intro hlsp hltb)
  clear hs3 hbk0 hbk4
  go_wp2_with fail
  refine wp_region_plan_by (SameL [sp, tb]) (later_same _) [(0, false), (1, false), (2, false), (3, false), (4, false), (5, false), (6, false), (7, false), (8, false), (9, false), (10, false), (11, true), (12, true)] (by kernel_rfl) (by kernel_rfl) (fun _ d _ _ _ h => by cases d <;> exact h) ?_
  iterate 8 (refine plan_take (v := ?_) rfl (by kernel_rfl) ?_ ?_; rotate_left; (focus (intro w' hw'; try go_simp; try with_reducible rfl)); simp only [Act.put, List.setIfInBounds_toArray, List.set_cons_zero, List.set_cons_succ])
  refine plan_quiet rfl (by kernel_rfl) (fun w' => by go_simp; all_goals (first | exact ⟨rfl, rfl⟩ | rfl)) (fun w' hw' => HRT.out w' hw') ?_
  simp only [Act.put, List.setIfInBounds_toArray, List.set_cons_zero, List.set_cons_succ]
  iterate 2 (refine plan_take (v := ?_) rfl (by kernel_rfl) ?_ ?_; rotate_left; (focus (intro w' hw'; try go_simp; try with_reducible rfl)); simp only [Act.put, List.setIfInBounds_toArray, List.set_cons_zero, List.set_cons_succ])
  clear s5 s7 HRT
  refine plan_call rfl (by kernel_rfl) (by go_simp; exact ⟨rfl, rfl⟩) ?_
  refine (putsatp_any true 1 0 _ (by decide)).mono ?_
  rintro e w13 ⟨rfl, b13⟩
  have H13 := Lib.hid (HS3.out.step b13)
  have HX13 : Hid (SameL [sp, tb] w12.drew w13) := Lib.hid (SameL.ext b13 (fun x hx => by
    have := HLB.out
    simp only [List.mem_cons, List.not_mem_nil, or_false] at hx
    rcases hx with rfl | rfl
    · exact this.1
    · exact this.2))
  refine ⟨_, rfl, HX13.out, ?_⟩
  simp only [Act.put, List.setIfInBounds_toArray, List.set_cons_zero, List.set_cons_succ]
  clear b13 hlsp hltb
  refine plan_call rfl (by kernel_rfl) (by go_simp; exact ⟨rfl, rfl⟩) ?_
  refine (setsatp_any _ _ _ _ _ _ _ _ _ _ _ _ (satpV true 1 0) (by decide) H13.out.toUn).mono ?_
  rintro e w14 ⟨rfl, h14⟩
  have h14' := Objs.ofUnU h14
  have HSM : Hid (SameL [sp, tb] w13 w14) := Lib.hid (fun b hb => by
    simp only [List.mem_cons, List.not_mem_nil, or_false] at hb
    rcases hb with rfl | rfl
    · exact H13.out.same h14' 0 0 rfl rfl
    · exact H13.out.same h14' 4 4 rfl rfl)
  have hun : un0U.satp (satpV true 1 0) = ⟨true, 1, 0, false, false, false⟩ := by kernel_rfl
  have h14x : Objs W (spO (newL sp ub b g tb sb m1 m2 k m n nc np ns W.heap.size (.slice vA nc vc) (.slice vA2 np vc2) ((List.range nc).map (fun i => (st i).k)) ((List.range np).map (fun i => (st2 i).k)) (un0U.satp (satpV true 1 0))) (st2 np) (blkO shb 26 #[.int .i64 (nc : Int), .int .i64 (np : Int), .int .i64 (ns : Int)] :: os)) w14 := h14'
  rw [hun] at h14x
  have H14 := Lib.hid h14x
  clear h14 h14' h14x hun
  refine ⟨_, rfl, HSM.out, ?_⟩
  simp only [Act.put, List.setIfInBounds_toArray, List.set_cons_zero, List.set_cons_succ]
  refine plan_end ?_
  clear HSM
  have hbk := H14.out.blk 0 rfl
  have d7 : w14.cell? ⟨sp, 7, none⟩ = some (.pointer (some ⟨ub, 0, none⟩)) := hbk.cell 7
  have hl : sp < w14.heap.size := hbk.lt
  clear hbk
  go_wp2_with fail
  refine (setmode_any _ _ _ _ _ _ _ _ _ _ _ _ true false false H14.out.toUn).mono ?_
  rintro e w15 ⟨rfl, h15⟩
  have h15' : Objs W (spO (newL sp ub b g tb sb m1 m2 k m n nc np ns W.heap.size (.slice vA nc vc) (.slice vA2 np vc2) ((List.range nc).map (fun i => (st i).k)) ((List.range np).map (fun i => (st2 i).k)) ⟨true, 1, 0, true, false, false⟩) (st2 np) (blkO shb 26 #[.int .i64 (nc : Int), .int .i64 (np : Int), .int .i64 (ns : Int)] :: os)) w15 := Objs.ofUnU h15
  have H15 := Lib.hid h15'
  clear h15 h15' d7 hl
  go_wp2_with fail
  go_ret2
  have hP := HG.out.2.2.2 (.slice vA nc vc) (.slice vA2 np vc2) W.heap.size
  exact ⟨newL sp ub b g tb sb m1 m2 k m n nc np ns W.heap.size (.slice vA nc vc) (.slice vA2 np vc2) ((List.range nc).map (fun i => (st i).k)) ((List.range np).map (fun i => (st2 i).k)) ⟨true, 1, 0, true, false, false⟩, st2 np, rfl, hP, Objs.without (xs := spO (newL sp ub b g tb sb m1 m2 k m n nc np ns W.heap.size (.slice vA nc vc) (.slice vA2 np vc2) ((List.range nc).map (fun i => (st i).k)) ((List.range np).map (fun i => (st2 i).k)) ⟨true, 1, 0, true, false, false⟩) (st2 np) []) (A := blkO shb 26 #[.int .i64 (nc : Int), .int .i64 (np : Int), .int .i64 (ns : Int)]) (os := os) H15.out⟩
end
end Go.Proofs.YtophcgbddccpeaaGreat

/- Plain laws: tables beside pages of bytes; a page is mapped at level 0. -/
namespace Go.Proofs.YtophcgbddccpeaaGreat
open Go.RowKit

theorem st_other {n at_ v f : Nat} {s : Int} {S : Nat → List Nat} (h : at_ / 4096 ≠ f) : stR n S at_ s v f = S f := by
  unfold stR
  split
  · unfold stS updS
    rw [if_neg (fun e => h e.symm)]
  · rfl
theorem upd_other {k f : Nat} {l : List Nat} {S : Nat → List Nat} (h : f ≠ k) : updS S k l f = S f := by
  unfold updS
  rw [if_neg h]
/-- No table stands in the frame. -/
def FreeF (root : Nat) (T : List Tb) (f : Nat) : Prop := f ≠ root ∧ ∀ b ∈ T, b.fr ≠ f
theorem FreeF.tab {root f va l t : Nat} {T : List Tb} (h : FreeF root T f) (ht : tabF root T va l = some t) : t ≠ f := by
  by_cases hl : l = 2
  · unfold tabF at ht
    rw [if_pos hl] at ht
    injection ht with ht
    intro e
    exact h.1 (by rw [← e, ht])
  · obtain ⟨b, hb, _, _, e⟩ := tab_some hl ht
    rw [← e]
    exact h.2 b hb
section
variable {c : TC} {σ : TS} {L : List Mp} {T : List Tb}
theorem at_frame {va t l : Nat} (ht : t < 1048576) : atX va t l / 4096 = t := by
  have := idx_lt va l
  rw [at_eq' ht]
  omega
/-- Bytes of other frames, and more frames taken. -/
theorem Inv.other (h : Inv c σ L T) {S' : Nat → List Nat} {k' u' : Nat} (hf : Full S') (hk : σ.k ≤ k') (hS : ∀ t, ¬ FreeF c.root T t → S' t = σ.S t) : Inv c ⟨S', k', u'⟩ L T := by
  have htab : ∀ (va l t : Nat), tabF c.root T va l = some t → S' t = σ.S t := fun va l t ht => hS t (fun hfr => hfr.tab ht rfl)
  refine { h with full := hf, rfresh := Nat.lt_of_lt_of_le h.rfresh (Nat.add_le_add_left hk _), fresh := fun b hb => Nat.lt_of_lt_of_le (h.fresh b hb) (Nat.add_le_add_left hk _), wd := fun va l t hv hc hl ht => ?_ }
  rw [← h.wd va l t hv hc hl ht]
  have hi := idx_lt va l
  unfold wdX ldR ldV
  rw [show (t * 4096 + 8 * indexV va (l : Int)) / 4096 = t by omega, show (⟨S', k', u'⟩ : TS).S t = σ.S t from htab va l t ht]
theorem lead_keep {a f : Nat} (hf : f < c.first + σ.k) (ha : a / 4096 ≠ f) : (leadS c σ a).S f = σ.S f := by
  have htk : (takeS c σ).S f = σ.S f := by
    unfold takeS
    split
    · rfl
    · split
      · rfl
      · exact upd_other (by omega)
  unfold leadS
  split
  · split
    · show stR c.n (takeS c σ).S a 8 _ f = _
      rw [st_other ha, htk]
    · exact htk
  · rfl
/-- A mapping leaves frames without tables as they are. -/
theorem map_keep (va level x : Nat) (hv : va < 18446744073709551616) (hc : canonB va = true) (f : Nat) : ∀ (d : Nat) (σ : TS) (L : List Mp) (T : List Tb) (t : Nat), Inv c σ L T → level + d ≤ 2 → tabF c.root T va (level + d) = some t → FreeF c.root T f → f < c.first + σ.k →
    (mapGo c va level x d σ t).2.S f = σ.S f
  | 0, σ, L, T, t, h, hl, ht, hfr, hfk => by
    have hft := h.frame ht
    have hn := h.n
    unfold mapGo
    split
    · exact st_other (by rw [at_frame (by omega)]; exact hfr.tab ht)
    · rfl
  | d + 1, σ, L, T, t, h, hl, ht, hfr, hfk => by
    have hft := h.frame ht
    have hn := h.n
    have hat : atX va t (level + (d + 1)) / 4096 ≠ f := by rw [at_frame (by omega)]; exact hfr.tab ht
    have hl1 : level + (d + 1) - 1 = level + d := by omega
    unfold mapGo
    cases e : pageP L va (level + (d + 1)) with
    | some m =>
      obtain ⟨g1, g2, _⟩ := h.lead_page hv hc hl ht e
      rw [g1, g2, if_neg (by decide)]
    | none =>
      cases e2 : tabF c.root T va (level + d) with
      | some f' =>
        obtain ⟨g1, g2, g3, _⟩ := h.lead_down (f := f') hv hc hl (by omega) ht e (by rw [hl1]; exact e2)
        rw [g1, g2, g3, if_pos rfl]
        exact map_keep va level x hv hc f d σ L T f' h (by omega) e2 hfr hfk
      | none =>
        have hz := h.zero hv hc hl ht e (.inr (by rw [hl1]; exact e2))
        have hE : leadE c σ (atX va t (level + (d + 1))) = takeE c σ := by unfold leadE; rw [if_pos hz]
        by_cases hE0 : takeE c σ = 0
        · have hk : σ.k ≠ c.N := fun e => by unfold takeE at hE0; rw [if_pos e] at hE0; cases hE0
          have hn2 : ¬ c.n ≤ c.first + σ.k := fun e => by unfold takeE at hE0; rw [if_neg hk, if_pos e] at hE0; cases hE0
          have hS : leadS c σ (atX va t (level + (d + 1))) = ⟨stR c.n (updS σ.S (c.first + σ.k) zeroL) (atX va t (level + (d + 1))) 8 (leadW (c.first + σ.k)), σ.k + 1, σ.u + 1⟩ := by
            unfold leadS takeS
            rw [if_pos hz, hE0, if_pos rfl, if_neg hk, if_neg hn2]
          have hF : leadF c σ (atX va t (level + (d + 1))) = c.first + σ.k := by
            unfold leadF
            rw [if_pos hz, hE0, if_pos rfl]
          have hlay := h.lay hv hc hl (by omega) ht e (by rw [hl1]; exact e2) (by omega) (σ.u + 1)
          rw [hl1] at hlay
          have htn : tabF c.root (T ++ [⟨level + d, baseN va (level + (d + 1)), c.first + σ.k⟩]) va (level + d) = some (c.first + σ.k) := by
            rw [tab_app, e2]
            simp only
            rw [if_pos ⟨trivial, rfl⟩]
          have hfr2 : FreeF c.root (T ++ [⟨level + d, baseN va (level + (d + 1)), c.first + σ.k⟩]) f := ⟨hfr.1, fun b hb => by
            rcases List.mem_append.1 hb with hb | hb
            · exact hfr.2 b hb
            · rw [List.mem_singleton.1 hb]; show c.first + σ.k ≠ f; omega⟩
          have hrec := map_keep va level x hv hc f d _ L _ _ hlay (by omega) htn hfr2 (by show f < c.first + (σ.k + 1); omega)
          rw [hE, if_pos hE0, hS, hF, hrec]
          show stR c.n (updS σ.S (c.first + σ.k) zeroL) (atX va t (level + (d + 1))) 8 _ f = _
          rw [st_other hat, upd_other (by omega)]
        · rw [hE, if_neg hE0]
          exact lead_keep hfk hat
/-- The tables that a mapping at level 0 lays. -/
def laidT (c : TC) (k : Nat) (T : List Tb) (va : Nat) : List Tb :=
  if tabF c.root T va 1 = none then [⟨1, baseN va 2, c.first + k⟩, ⟨0, baseN va 1, c.first + (k + 1)⟩] else if tabF c.root T va 0 = none then [⟨0, baseN va 1, c.first + k⟩] else []
theorem page_lev {L : List Mp} (hL : ∀ m ∈ L, m.lev = 0) (va l : Nat) (hl : l ≠ 0) : pageP L va l = none := by
  cases e : pageP L va l with
  | none => rfl
  | some m => obtain ⟨h1, h2, _⟩ := page_some e; exact absurd ((hL m h1).symm.trans h2).symm hl
theorem tab_none1 (h : Inv c σ L T) {va : Nat} (h1 : tabF c.root T va 1 = none) : tabF c.root T va 0 = none := by
  cases e : tabF c.root T va 0 with
  | none => rfl
  | some f => obtain ⟨g, hg⟩ := h.above e; rw [h1] at hg; cases hg
theorem map0 (h : Inv c σ L T) {va : Nat} {p : Pte} (hv : va < 18446744073709551616) (hc : canonB va = true) (hm : mayB p 0 = true) (hw : PteWf p) (hL : ∀ m ∈ L, m.lev = 0) (hp : pageP L va 0 = none)
    (hN : c.first + σ.k + (laidT c σ.k T va).length ≤ c.n) (hN2 : σ.k + (laidT c σ.k T va).length ≤ c.N) (hu : σ.u ≤ σ.k) :
    (mapR c σ va 0 p).1 = 0 ∧ Inv c (mapR c σ va 0 p).2 (L ++ [⟨baseN va 0, 0, p⟩]) (T ++ laidT c σ.k T va) ∧ (mapR c σ va 0 p).2.k = σ.k + (laidT c σ.k T va).length ∧ (mapR c σ va 0 p).2.u ≤ (mapR c σ va 0 p).2.k ∧
      ∀ f, FreeF c.root T f → f < c.first + σ.k → (mapR c σ va 0 p).2.S f = σ.S f := by
  have hR : mapR c σ va 0 p = mapGo c va 0 p.word 2 σ c.root := by
    unfold mapR
    rw [if_pos (by rw [hc, hm]; rfl)]
    rfl
  have ht2 := tab_top c.root T va
  obtain ⟨r1, r2, r3, r4⟩ := map_spec va 0 p hv hc hm hw 2 c σ L T c.root h (by decide) ht2
  have hX : mapX c va 0 p 2 ⟨L, T, σ.k⟩ = (0, ⟨L ++ [⟨baseN va 0, 0, p⟩], T ++ laidT c σ.k T va, σ.k + (laidT c σ.k T va).length⟩) := by
    have p2 := page_lev hL va 2 (by decide)
    have p1 := page_lev hL va 1 (by decide)
    unfold laidT at hN hN2 ⊢
    cases e1 : tabF c.root T va 1 with
    | none =>
      have e0 := tab_none1 h e1
      rw [if_pos e1] at hN hN2
      simp only [List.length_cons, List.length_nil] at hN hN2
      unfold mapX
      simp only [p2, e1]
      rw [if_neg (by omega), if_neg (by omega)]
      unfold mapX
      simp only [p1]
      rw [tab_app, e0]
      simp only
      rw [if_neg (by simp)]
      simp only
      rw [if_neg (by omega), if_neg (by omega)]
      unfold mapX
      rw [if_pos ⟨hp, .inl rfl⟩]
      simp
    | some f1 =>
      simp only [e1] at hN hN2
      rw [if_neg (by simp)] at hN hN2
      unfold mapX
      simp only [p2, e1]
      unfold mapX
      simp only [p1]
      cases e0 : tabF c.root T va 0 with
      | none =>
        rw [if_pos e0] at hN hN2
        simp only [List.length_cons, List.length_nil] at hN hN2
        simp only [e0]
        rw [if_neg (by omega), if_neg (by omega)]
        unfold mapX
        rw [if_pos ⟨hp, .inl rfl⟩]
        simp
      | some f0 =>
        simp only [e0]
        unfold mapX
        rw [if_pos ⟨hp, .inl rfl⟩]
        simp
  rw [hX] at r1 r2 r3
  rw [hR]
  refine ⟨r1, r2, r3, ?_, fun f hf hfk => map_keep va 0 p.word hv hc f 2 σ L T c.root h (by decide) ht2 hf hfk⟩
  have r3' : (mapGo c va 0 p.word 2 σ c.root).2.k = σ.k + (laidT c σ.k T va).length := r3
  omega
/-- A page's entry is changed. -/
theorem change0 (h : Inv c σ L T) {va i : Nat} {m : Mp} {p : Pte} (hv : va < 18446744073709551616) (hc : canonB va = true) (hm : mayB p 0 = true) (hw : PteWf p) (hl : m.lev = 0) (hp : pageP L va 0 = some m) (hi : L[i]? = some m) :
    (changeR c σ va p).1 = 0 ∧ Inv c (changeR c σ va p).2 (L.set i ⟨m.va, m.lev, p⟩) T ∧ (changeR c σ va p).2.k = σ.k ∧ (changeR c σ va p).2.u = σ.u ∧ ∀ f, FreeF c.root T f → (changeR c σ va p).2.S f = σ.S f := by
  have hh : holdsP L va = some m := by unfold holdsP; rw [hp]
  obtain ⟨t, g1, g2, g3, g4⟩ := find_some h hv hc hh
  have hft := h.frame g1
  have hn := h.n
  have hR : changeR c σ va p = (0, ⟨stR c.n σ.S (atX va t m.lev) 8 p.word, σ.k, σ.u⟩) := by
    unfold changeR
    rw [g4]
    simp only
    rw [hl]
    rw [if_pos (by exact hm)]
  rw [hR]
  exact ⟨rfl, h.put hv hc g2 g1 (by rw [hl]; exact hm) hw g3 hi σ.u, rfl, rfl, fun f hf => st_other (by rw [at_frame (by omega)]; exact hf.tab g1)⟩
/-- A page goes. -/
theorem unmap0 (h : Inv c σ L T) {va i : Nat} {m : Mp} (hv : va < 18446744073709551616) (hc : canonB va = true) (hl : m.lev = 0) (hp : pageP L va 0 = some m) (hi : L[i]? = some m) :
    (unmapR c σ va).2.1 = 0 ∧ Inv c (unmapR c σ va).2.2 (L.eraseIdx i) T ∧ (unmapR c σ va).2.2.k = σ.k ∧ (unmapR c σ va).2.2.u = σ.u ∧ ∀ f, FreeF c.root T f → (unmapR c σ va).2.2.S f = σ.S f := by
  have hh : holdsP L va = some m := by unfold holdsP; rw [hp]
  obtain ⟨t, g1, g2, g3, g4⟩ := find_some h hv hc hh
  have hft := h.frame g1
  have hn := h.n
  have hR : unmapR c σ va = (entP m.p.word, 0, ⟨stR c.n σ.S (atX va t m.lev) 8 0, σ.k, σ.u⟩) := by
    unfold unmapR
    rw [g4]
  rw [hR]
  exact ⟨rfl, h.del hv hc g2 g1 g3 hi σ.u, rfl, rfl, fun f hf => st_other (by rw [at_frame (by omega)]; exact hf.tab g1)⟩
end
end Go.Proofs.YtophcgbddccpeaaGreat

/- Plain laws: a buffer that holds nothing but what is mapped; what an access comes to. -/
namespace Go.Proofs.YtophcgbddccpeaaGreat
open Go.RowKit

def InT (T : List (List En)) (e : En) : Prop := ∃ s ∈ T, e ∈ s
theorem inT_getD {T : List (List En)} {i : Nat} {e : En} (h : e ∈ T.getD i []) : InT T e := by
  rw [List.getD_eq_getElem?_getD] at h
  cases hg : T[i]? with
  | none => rw [hg] at h; simp at h
  | some s => rw [hg] at h; exact ⟨s, List.mem_of_getElem? hg, h⟩
theorem inT_fill {T : List (List En)} {va : Nat} {asid pick : Int} {lf : Tf} {e : En} (h : InT (fillB T va asid lf pick) e) : InT T e ∨ e = fillE va asid lf := by
  unfold fillB at h
  split at h
  · obtain ⟨s, hs, he⟩ := h
    unfold fillS at hs
    rcases List.mem_or_eq_of_mem_set hs with hs | rfl
    · exact .inl ⟨s, hs, he⟩
    · rcases List.mem_or_eq_of_mem_set he with he | rfl
      · exact .inl (inT_getD he)
      · exact .inr rfl
  · exact .inl h
theorem inT_fence {T : List (List En)} {vo : Option Nat} {ao : Option Int} {e : En} (h : InT (fenceS T vo ao) e) : e = en0 ∨ (InT T e ∧ goesB e vo ao = false) := by
  obtain ⟨s, hs, he⟩ := h
  unfold fenceS at hs
  obtain ⟨s0, hs0, rfl⟩ := List.mem_map.1 hs
  obtain ⟨e0, he0, rfl⟩ := List.mem_map.1 he
  unfold fen
  split
  · exact .inl rfl
  · rename_i hg
    exact .inr ⟨⟨s0, hs0, he0⟩, by simpa using hg⟩
theorem inT_empty {n m : Nat} {e : En} (h : InT (emptyT n m) e) : e = en0 := by
  obtain ⟨s, hs, he⟩ := h
  unfold emptyT at hs
  rw [(List.mem_replicate.1 hs).2] at he
  exact (List.mem_replicate.1 he).2
theorem inT_listW {i : Nat} {x : Sl} : ∀ (l : List En) (k : Nat), x ∈ listW i k l → ∃ e ∈ l, e.full = true ∧ x.page = e.page ∧ x.lf = e.lf
  | [], _, h => by simp [listW] at h
  | e :: r, k, h => by
    unfold listW at h
    rcases List.mem_append.1 h with h | h
    · split at h
      · rename_i hf
        rw [List.mem_singleton.1 h]
        exact ⟨e, List.mem_cons_self, hf, rfl, rfl⟩
      · simp at h
    · obtain ⟨e', h1, h2⟩ := inT_listW r (k + 1) h
      exact ⟨e', List.mem_cons_of_mem _ h1, h2⟩
theorem inT_list {x : Sl} : ∀ (T : List (List En)) (i : Nat), x ∈ listT i T → ∃ e, InT T e ∧ e.full = true ∧ x.page = e.page ∧ x.lf = e.lf
  | [], _, h => by simp [listT] at h
  | s :: r, i, h => by
    unfold listT at h
    rcases List.mem_append.1 h with h | h
    · obtain ⟨e, h1, h2⟩ := inT_listW s 0 h
      exact ⟨e, ⟨s, List.mem_cons_self, h1⟩, h2⟩
    · obtain ⟨e, ⟨s', h1, h3⟩, h2⟩ := inT_list r (i + 1) h
      exact ⟨e, ⟨s', List.mem_cons_of_mem _ h1, h3⟩, h2⟩
theorem way_hit {l : List En} {lev : Int} {va : Nat} {asid : Int} {lf : Tf} (h : wayFind l lev va asid = some lf) : ∃ e ∈ l, e.lf = lf ∧ lf.lev = lev ∧ e.full = true ∧ e.page = pgN va lf.lev ∧ (e.asid = asid ∨ lf.g = true) := by
  unfold wayFind at h
  obtain ⟨e, h1, rfl⟩ := Option.map_eq_some_iff.1 h
  have h2 := List.find?_some h1
  simp only [hitB, matchB, hasB, Bool.and_eq_true, beq_iff_eq, Bool.or_eq_true] at h2
  exact ⟨e, List.mem_of_find?_eq_some h1, rfl, h2.1, h2.2.1.1, h2.2.1.2, h2.2.2⟩
theorem finds_hit {T : List (List En)} {va : Nat} {asid : Int} {lf : Tf} (h : findS T va asid = some lf) : ∃ e, InT T e ∧ e.lf = lf ∧ e.full = true ∧ e.page = pgN va lf.lev := by
  unfold findS at h
  have key : ∀ (i : Nat) (lev : Int), wayFind (T.getD i []) lev va asid = some lf → ∃ e, InT T e ∧ e.lf = lf ∧ e.full = true ∧ e.page = pgN va lf.lev := fun i lev h => by
    obtain ⟨e, h1, h2, _, h3, h4, _⟩ := way_hit h
    exact ⟨e, inT_getD h1, h2, h3, h4⟩
  rcases Option.or_eq_some_iff.1 h with h | ⟨_, h⟩
  · exact key _ _ h
  · rcases Option.or_eq_some_iff.1 h with h | ⟨_, h⟩
    · exact key _ _ h
    · exact key _ _ h
def tfP (l : Tf) : Pte := ⟨l.v, l.r, l.w, l.x, l.u, l.g, l.a, l.d, l.rsw, (l.ppn : Int)⟩
theorem tfP_fd (x l a : Nat) : tfP (fdT (.leaf x l a)) = entP x := by
  unfold tfP fdT entP
  simp
/-- The buffer holds nothing but mapped pages. -/
def BufOK (T : List (List En)) (L : List Mp) : Prop := ∀ e, InT T e → e.full = true → ∃ m ∈ L, e.lf.lev = (m.lev : Int) ∧ e.page = vpnV m.va ∧ tfP e.lf = m.p
theorem BufOK.empty (n m : Nat) (L : List Mp) : BufOK (emptyT n m) L := fun e he hf => by rw [inT_empty he] at hf; cases hf
theorem pg0 (va : Nat) : pgN va 0 = vpnV va := by unfold pgN; simp
theorem BufOK.fill {T : List (List En)} {L : List Mp} (h : BufOK T L) {va : Nat} {asid pick : Int} {lf : Tf} {m : Mp} (hm : m ∈ L) (h0 : m.lev = 0) (hl : lf.lev = 0) (hv : vpnV va = vpnV m.va) (hp : tfP lf = m.p) : BufOK (fillB T va asid lf pick) L := fun e he hf => by
  rcases inT_fill he with he | rfl
  · exact h e he hf
  · refine ⟨m, hm, ?_, ?_, hp⟩
    · show lf.lev = _; rw [hl, h0]; rfl
    · show pgN va lf.lev = _; rw [hl, pg0, hv]
/-- A page's entry has turned, and the page was fenced. -/
theorem BufOK.fence {T : List (List En)} {L L' : List Mp} (h : BufOK T L) (hL : ∀ m ∈ L, m.lev = 0) {va : Nat} (hk : ∀ m ∈ L, vpnV m.va ≠ vpnV va → m ∈ L') : BufOK (fenceS T (some va) none) L' := fun e he hf => by
  rcases inT_fence he with rfl | ⟨he, hg⟩
  · cases hf
  · obtain ⟨m, hm, h1, h2, h3⟩ := h e he hf
    refine ⟨m, hk m hm (fun e2 => ?_), h1, h2, h3⟩
    have hlev : e.lf.lev = 0 := by rw [h1, hL m hm]; rfl
    have : goesB e (some va) none = true := by
      simp only [goesB, vaOK, asOK, hasB, hf, Bool.true_and, Bool.and_true, beq_iff_eq]
      rw [hlev, pg0, h2, e2]
    rw [hg] at this
    cases this
theorem canon_low {va : Nat} (h : va < 274877906944) : canonB va = true := by
  unfold canonB fieldV
  rw [show va / 2 ^ 38 = 0 by omega]
  rfl
theorem vpn_base {va vb : Nat} (ha : va < 274877906944) (hb : vb < 274877906944) (h : vpnV va = vpnV vb) : baseN va 0 = baseN vb 0 := by
  unfold vpnV at h
  unfold baseN
  rw [sp0]
  omega
/-- What tables and buffer come to at an address. -/
theorem leaf_law {c : TC} {σ : TS} {L : List Mp} {Tb : List Tb} {T : List (List En)} {u : Un} {va : Nat} {a pick : Int} (h : Inv c σ L Tb) (hL : ∀ m ∈ L, m.lev = 0) (hB : BufOK T L) (hon : u.on = true) (hpp : u.ppn = c.root) (hv : va < 18446744073709551616) :
    (∃ m ∈ L, (leafM c.n σ.S T u va a pick).2.1 = -1 ∧ vpnV m.va = vpnV va ∧ tfP (leafM c.n σ.S T u va a pick).1 = m.p ∧ (leafM c.n σ.S T u va a pick).1.lev = 0 ∧ BufOK (leafM c.n σ.S T u va a pick).2.2 L) ∨
    ((canonB va = false ∨ pageP L va 0 = none) ∧ (leafM c.n σ.S T u va a pick).2.1 = causeV a 12 13 15 ∧ (leafM c.n σ.S T u va a pick).2.2 = T) := by
  unfold leafM
  cases hf : findS T va u.asid with
  | some lf =>
    obtain ⟨e, h1, rfl, h3, h4⟩ := finds_hit hf
    obtain ⟨m, hm, g1, g2, g3⟩ := hB e h1 h3
    have hlev : e.lf.lev = 0 := by rw [g1, hL m hm]; rfl
    rw [hlev, pg0] at h4
    exact .inl ⟨m, hm, rfl, by rw [← g2, h4], g3, hlev, hB⟩
  | none =>
    simp only
    rw [hon, hpp]
    have hfw : findW c.n σ.S true c.root va = findT c σ va := rfl
    rw [hfw]
    by_cases hc : canonB va = false ∨ pageP L va 0 = none
    · have h51 : findT c σ va = .err 51 := tab_find_none h hv (by
        rcases hc with hc | hc
        · exact .inl hc
        · right
          unfold holdsP
          rw [hc, page_lev hL va 1 (by decide), page_lev hL va 2 (by decide)])
      refine .inr ⟨hc, ?_, ?_⟩
      · rw [h51]; rfl
      · rw [h51]; rfl
    · have hcc : canonB va = true := by
        cases e : canonB va with
        | false => exact absurd (.inl e) hc
        | true => rfl
      cases hp : pageP L va 0 with
      | none => exact absurd (.inr hp) hc
      | some m =>
        obtain ⟨hm, hml, hmv⟩ := page_some hp
        obtain ⟨t, g1, g2, g3, g4⟩ := find_some h hv hcc (by unfold holdsP; rw [hp])
        obtain ⟨_, _, _, _, hmay, hwf⟩ := h.pg m hm
        have hent := (may_word hmay hwf).2.2.2.1
        have hvp : vpnV va = vpnV m.va := by
          rw [hmv]
          unfold vpnV baseN
          rw [sp0]
          omega
        rw [g4, hml]
        have h0 : fdE (Fd.leaf m.p.word 0 (atX va t 0)) = 0 := rfl
        rw [if_pos h0]
        refine .inl ⟨m, hm, rfl, hvp.symm, ?_, rfl, ?_⟩
        · show tfP (fdT (.leaf m.p.word 0 (atX va t 0))) = _
          rw [tfP_fd, hent]
        · exact hB.fill (m := m) (lf := fdT (.leaf m.p.word 0 (atX va t 0))) hm hml rfl hvp (by rw [tfP_fd, hent])
/-- May an access go over a page with this entry? -/
def mayA (p : Pte) (a : Int) : Bool := checkB p.v p.r p.w p.x p.u p.a p.d a true false false
theorem place_law {c : TC} {σ : TS} {L : List Mp} {Tb : List Tb} {T : List (List En)} {u : Un} {va : Nat} {size a pick : Int} (h : Inv c σ L Tb) (hL : ∀ m ∈ L, m.lev = 0) (hB : BufOK T L) (hon : u.on = true) (hpp : u.ppn = c.root) (hus : u.user = true) (hsu : u.sum = false) (hmx : u.mxr = false) (hv : va < 18446744073709551616) (hal : alignedB va size = true) (ha : 0 ≤ a ∧ a ≤ 2)
    (hP : ∀ m ∈ L, 0 ≤ m.p.ppn ∧ m.p.ppn < (c.n : Int)) :
    (∃ m ∈ L, vpnV m.va = vpnV va ∧ mayA m.p a = true ∧ (placeM c.n σ.S T u va size a pick).1 = m.p.ppn.toNat * 4096 + va % 4096 ∧ (placeM c.n σ.S T u va size a pick).2.1 = -1 ∧ BufOK (placeM c.n σ.S T u va size a pick).2.2 L) ∨
    ((placeM c.n σ.S T u va size a pick).1 = 0 ∧ (placeM c.n σ.S T u va size a pick).2.1 = causeV a 12 13 15 ∧ BufOK (placeM c.n σ.S T u va size a pick).2.2 L ∧ (canonB va = false ∨ pageP L va 0 = none ∨ ∃ m ∈ L, vpnV m.va = vpnV va ∧ mayA m.p a = false)) := by
  have hn := h.n
  unfold placeM
  rw [if_pos hal]
  rcases leaf_law (a := a) (pick := pick) h hL hB hon hpp hv with ⟨m, hm, g1, g2, g3, g4, g5⟩ | ⟨hc, g1, g2⟩
  · rw [if_pos g1]
    generalize leafM c.n σ.S T u va a pick = r at *
    have hck : checkB r.1.v r.1.r r.1.w r.1.x r.1.u r.1.a r.1.d a u.user u.sum u.mxr = mayA m.p a := by
      rw [← g3, hus, hsu, hmx]
      rfl
    have hpn : (r.1.ppn : Int) = m.p.ppn := by rw [← g3]; rfl
    have hb := hP m hm
    have hj : joinV r.1.ppn va r.1.lev = m.p.ppn.toNat * 4096 + va % 4096 := by
      rw [g4]
      show (r.1.ppn * 4096 % 18446744073709551616) / 4096 * 4096 + va % 4096 = _
      omega
    rw [hck]
    cases hm2 : mayA m.p a with
    | false =>
      rw [if_neg (by decide)]
      exact .inr ⟨rfl, rfl, g5, .inr (.inr ⟨m, hm, g2, hm2⟩)⟩
    | true =>
      rw [if_pos rfl, hj, if_pos (by omega)]
      exact .inl ⟨m, hm, g2, hm2, rfl, rfl, g5⟩
  · have hne : causeV a 12 13 15 ≠ -1 := by
      rcases (show a = 0 ∨ a = 1 ∨ a = 2 by omega) with rfl | rfl | rfl <;> decide
    rw [if_neg (by rw [g1]; exact hne)]
    exact .inr ⟨rfl, g1, by rw [g2]; exact hB, hc.imp id .inl⟩
end Go.Proofs.YtophcgbddccpeaaGreat
