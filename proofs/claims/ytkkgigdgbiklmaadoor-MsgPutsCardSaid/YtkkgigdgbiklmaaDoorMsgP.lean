/- MsgPuts: the bytes of any message. Condition: the library's tables lie as their own text lays them. -/
import Derived.Test.YtkkgigdgbiklmaaDoorMsgG
namespace Go.Proofs.YtkkgigdgbiklmaaDoor
open Go.RowKit Go.ChangeShapes

theorem right_dlen {k p nd h : Int} {s : Nat} {D : List Nat} (hr : rightM k p nd h s D = true) : D.length ≤ 4096 := by
  unfold rightM dataB at hr
  simp only [Bool.and_eq_true] at hr
  have h2 := hr.2
  split at h2
  · simp only [Bool.and_eq_true, decide_eq_true_eq] at h2
    exact h2.1
  · simp only [beq_iff_eq] at h2
    omega
theorem own_cap {w : World} {base n : Nat} {e : TypeId} {A : Option Addr} {m c : Nat} {xs : List Value} (h : w.ownsRow base e 1 (.slice A m c) n xs) : n ≤ c := by
  rcases h.2 with ⟨_, h2⟩ | ⟨g, cap, cur, h, _, _, h3, _⟩
  · omega
  · injection h with _ _ h; omega
theorem put_plain {k p nd h s : Nat} {D : List Nat} (hr : rightM (k : Int) (p : Int) (nd : Int) (h : Int) s D = true) (hs : s < 65536) :
    okL (putL k p nd h s D) = true ∧ gK (putL k p nd h s D) = k ∧ gP (putL k p nd h s D) = p ∧ gN (putL k p nd h s D) = nd ∧ gH (putL k p nd h s D) = h ∧ gS (putL k p nd h s D) = s ∧ (putL k p nd h s D).drop 11 = D := by
  have hd := right_dlen hr
  obtain ⟨hk, hp, hnd, hh⟩ := right_bounds hr
  have e : putL k p nd h s D = k :: nd :: h :: (p % 256) :: (p / 256) :: 0 :: 0 :: (s % 256) :: (s / 256) :: (D.length % 256) :: (D.length / 256) :: D := by
    unfold putL
    rw [← put11_eq k p nd h s D.length hp hs (by omega)]
    rfl
  rw [e]
  have eP : gP (k :: nd :: h :: (p % 256) :: (p / 256) :: 0 :: 0 :: (s % 256) :: (s / 256) :: (D.length % 256) :: (D.length / 256) :: D) = p := by
    show p % 256 + 256 * (p / 256 + 256 * (0 + 256 * (0 + 256 * 0))) = p
    omega
  have eS : gS (k :: nd :: h :: (p % 256) :: (p / 256) :: 0 :: 0 :: (s % 256) :: (s / 256) :: (D.length % 256) :: (D.length / 256) :: D) = s := by
    show s % 256 + 256 * (s / 256 + 256 * 0) = s
    omega
  have eZ : gZ (k :: nd :: h :: (p % 256) :: (p / 256) :: 0 :: 0 :: (s % 256) :: (s / 256) :: (D.length % 256) :: (D.length / 256) :: D) = D.length := by
    show D.length % 256 + 256 * (D.length / 256 + 256 * 0) = D.length
    omega
  refine ⟨?_, rfl, eP, rfl, rfl, eS, rfl⟩
  unfold okL rightL
  rw [eP, eS, eZ]
  show (_ && (_ && (_ && rightM (k : Int) (p : Int) (nd : Int) (h : Int) s D))) = true
  rw [hr]
  simp only [List.length_cons, Bool.and_true, Bool.and_eq_true, decide_eq_true_eq]
  omega
set_option maxRecDepth 100000 in
set_option maxHeartbeats 1000000 in
theorem puts_big (k p nd h : Int) (s : Nat) (A : Option Addr) (D : List Nat) (m c : Nat) (W : World) (hB : Bts W A D) (hm : D.length = m) (hn : 5000 < m) (hF : FW W) :
    Calls Tryd.prog 4 #[.agg #[.int .i64 k, .int .i64 p, .int .i64 nd, .int .i64 h, .int .u16 (s : Int), .slice A m c]] W fun e w' => e = .returned (.bool true) ∧ Below W.heap.size W w' := by
  have HE : Hid (Below W.heap.size W (W.alloc (.cells #[.int .i64 k, .int .i64 p, .int .i64 nd, .int .i64 h, .int .u16 (s : Int), .slice A m c] 27))) := Lib.hid ((Below.refl _ W).alloc (Nat.le_refl _) _)
  have HX : Hid (Blk (W.alloc (.cells #[.int .i64 k, .int .i64 p, .int .i64 nd, .int .i64 h, .int .u16 (s : Int), .slice A m c] 27)) W.heap.size 27 #[.int .i64 k, .int .i64 p, .int .i64 nd, .int .i64 h, .int .u16 (s : Int), .slice A m c]) := Lib.hid (Blkf.new_at _ _ _ _ rfl)
  have HB := Lib.hid (bts_below hB HE.out)
  have HF := Lib.hid (hF.below HE.out)
  have HM := Lib.hid hm
  have i5 : (5000 : Int) < (m : Int) := by omega
  clear hB hm hF
  go_enter Tryd.func4, Tryd.ntmps4
  go_wp2_with fail
  refine (first15 _ HF.out).mono ?_
  rintro e w1 ⟨rfl, hb1⟩
  have E1 := Lib.hid (HE.out.trans (hb1.mono HE.out.size))
  have X1 := Lib.hid (HX.out.below hb1 HX.out.lt)
  have B1 := Lib.hid (bts_below HB.out hb1)
  clear hb1 HE HX HB HF
  obtain ⟨ma, hma⟩ : ∃ x, x = W.heap.size := ⟨_, rfl⟩
  rw [← hma] at X1 ⊢
  have HMA := Lib.hid hma
  clear hma
  have x5 := X1.out.cell 5
  have xl := X1.out.lt
  simp only [List.getElem?_toArray, List.getElem?_cons_zero, List.getElem?_cons_succ] at x5
  go_wp2_with fail
  go_ret
  exact ⟨rfl, E1.out⟩
set_option maxRecDepth 100000 in
set_option maxHeartbeats 4000000 in
theorem puts_no (k p nd h : Int) (s : Nat) (A : Option Addr) (D : List Nat) (m c : Nat) (W : World) (hB : Bts W A D) (hm : D.length = m) (hn : m ≤ 5000) (hF : FW W) (hr : rightM k p nd h s D = false) :
    Calls Tryd.prog 4 #[.agg #[.int .i64 k, .int .i64 p, .int .i64 nd, .int .i64 h, .int .u16 (s : Int), .slice A m c]] W fun e w' => e = .returned (.bool true) ∧ Below W.heap.size W w' := by
  have HE : Hid (Below W.heap.size W (W.alloc (.cells #[.int .i64 k, .int .i64 p, .int .i64 nd, .int .i64 h, .int .u16 (s : Int), .slice A m c] 27))) := Lib.hid ((Below.refl _ W).alloc (Nat.le_refl _) _)
  have HX : Hid (Blk (W.alloc (.cells #[.int .i64 k, .int .i64 p, .int .i64 nd, .int .i64 h, .int .u16 (s : Int), .slice A m c] 27)) W.heap.size 27 #[.int .i64 k, .int .i64 p, .int .i64 nd, .int .i64 h, .int .u16 (s : Int), .slice A m c]) := Lib.hid (Blkf.new_at _ _ _ _ rfl)
  have HB := Lib.hid (bts_below hB HE.out)
  have HF := Lib.hid (hF.below HE.out)
  have HM := Lib.hid hm
  have HR := Lib.hid hr
  have i5 : ¬ (5000 : Int) < (m : Int) := by omega
  clear hB hm hF hr
  go_enter Tryd.func4, Tryd.ntmps4
  go_wp2_with fail
  refine (first15 _ HF.out).mono ?_
  rintro e w1 ⟨rfl, hb1⟩
  have E1 := Lib.hid (HE.out.trans (hb1.mono HE.out.size))
  have X1 := Lib.hid (HX.out.below hb1 HX.out.lt)
  have B1 := Lib.hid (bts_below HB.out hb1)
  clear hb1 HE HX HB HF
  obtain ⟨ma, hma⟩ : ∃ x, x = W.heap.size := ⟨_, rfl⟩
  rw [← hma] at X1 ⊢
  have HMA := Lib.hid hma
  clear hma
  have xl := X1.out.lt
  have x0 := X1.out.cell 0
  have x1 := X1.out.cell 1
  have x2 := X1.out.cell 2
  have x3 := X1.out.cell 3
  have x4 := X1.out.cell 4
  have x5 := X1.out.cell 5
  simp only [List.getElem?_toArray, List.getElem?_cons_zero, List.getElem?_cons_succ] at x0 x1 x2 x3 x4 x5
  go_wp2_with fail
  refine (mput_no k p nd h s A D m c _ B1.out HM.out (by omega) HR.out).mono ?_
  rintro e w2 ⟨rfl, hb⟩
  have E2 := Lib.hid (E1.out.trans (hb.mono E1.out.size))
  have X2 := Lib.hid (X1.out.below hb X1.out.lt)
  have B2 := Lib.hid (bts_below B1.out hb)
  clear hb E1 X1 B1 x0 x1 x2 x3 x4 x5 xl
  have xl := X2.out.lt
  have x0 := X2.out.cell 0
  have x1 := X2.out.cell 1
  have x2 := X2.out.cell 2
  have x3 := X2.out.cell 3
  have x4 := X2.out.cell 4
  have x5 := X2.out.cell 5
  simp only [List.getElem?_toArray, List.getElem?_cons_zero, List.getElem?_cons_succ] at x0 x1 x2 x3 x4 x5
  go_wp2_with fail
  refine (rright_any k p nd h s A D m c _ B2.out HM.out (by omega)).mono ?_
  rintro e w3 ⟨rfl, hb⟩
  rw [HR.out]
  have E3 := Lib.hid (E2.out.trans (hb.mono E2.out.size))
  have X3 := Lib.hid (X2.out.below hb X2.out.lt)
  have B3 := Lib.hid (bts_below B2.out hb)
  clear hb E2 X2 B2 x0 x1 x2 x3 x4 x5 xl
  have xl := X3.out.lt
  have x0 := X3.out.cell 0
  have x1 := X3.out.cell 1
  have x2 := X3.out.cell 2
  have x3 := X3.out.cell 3
  have x4 := X3.out.cell 4
  have x5 := X3.out.cell 5
  simp only [List.getElem?_toArray, List.getElem?_cons_zero, List.getElem?_cons_succ] at x0 x1 x2 x3 x4 x5
  go_wp2_with fail
  refine (mright_any k p nd h s A D m c _ B3.out HM.out (by omega)).mono ?_
  rintro e w4 ⟨rfl, hb⟩
  rw [HR.out]
  have E4 := Lib.hid (E3.out.trans (hb.mono E3.out.size))
  clear hb E3 X3 B3 x0 x1 x2 x3 x4 x5 xl
  go_wp2_with fail
  go_ret
  exact ⟨rfl, E4.out⟩
set_option maxRecDepth 100000 in
set_option maxHeartbeats 4000000 in
theorem puts_yes (k p nd h s : Nat) (A : Option Addr) (D : List Nat) (m c : Nat) (W : World) (hB : Bts W A D) (hm : D.length = m) (hn : m ≤ 5000) (hF : FW W) (hr : rightM (k : Int) (p : Int) (nd : Int) (h : Int) s D = true) (hs : s < 65536) :
    Calls Tryd.prog 4 #[.agg #[.int .i64 (k : Int), .int .i64 (p : Int), .int .i64 (nd : Int), .int .i64 (h : Int), .int .u16 (s : Int), .slice A m c]] W fun e w' => e = .returned (.bool true) ∧ Below W.heap.size W w' := by
  have HE : Hid (Below W.heap.size W (W.alloc (.cells #[.int .i64 (k : Int), .int .i64 (p : Int), .int .i64 (nd : Int), .int .i64 (h : Int), .int .u16 (s : Int), .slice A m c] 27))) := Lib.hid ((Below.refl _ W).alloc (Nat.le_refl _) _)
  have HX : Hid (Blk (W.alloc (.cells #[.int .i64 (k : Int), .int .i64 (p : Int), .int .i64 (nd : Int), .int .i64 (h : Int), .int .u16 (s : Int), .slice A m c] 27)) W.heap.size 27 #[.int .i64 (k : Int), .int .i64 (p : Int), .int .i64 (nd : Int), .int .i64 (h : Int), .int .u16 (s : Int), .slice A m c]) := Lib.hid (Blkf.new_at _ _ _ _ rfl)
  have HB := Lib.hid (bts_below hB HE.out)
  have HF := Lib.hid (hF.below HE.out)
  have HM := Lib.hid hm
  have HR := Lib.hid hr
  have HS := Lib.hid hs
  have HBD := Lib.hid (right_bounds hr)
  have HDL : Hid (m ≤ 4096) := Lib.hid (by rw [← hm]; exact right_dlen hr)
  have HPP := Lib.hid (put_plain hr hs)
  have HLB : Hid (∀ i : Nat, (putL k p nd h s D).getD i 0 < 256) := Lib.hid (put_lt (right_bounds hr).1 (right_bounds hr).2.1 (right_bounds hr).2.2.1 (right_bounds hr).2.2.2 hs hB.1 (by rw [hm]; omega))
  have HSM : Hid (sameM (k : Int) (p : Int) (nd : Int) (h : Int) s D (k : Int) (p : Int) (nd : Int) (h : Int) s D = true) := Lib.hid (by simp [sameM])
  have i5 : ¬ (5000 : Int) < (m : Int) := by omega
  clear hB hm hF hr hs
  go_enter Tryd.func4, Tryd.ntmps4
  go_wp2_with fail
  refine (first15 _ HF.out).mono ?_
  rintro e w1 ⟨rfl, hb1⟩
  have E1 := Lib.hid (HE.out.trans (hb1.mono HE.out.size))
  have X1 := Lib.hid (HX.out.below hb1 HX.out.lt)
  have B1 := Lib.hid (bts_below HB.out hb1)
  clear hb1 HE HX HB HF
  obtain ⟨ma, hma⟩ : ∃ x, x = W.heap.size := ⟨_, rfl⟩
  rw [← hma] at X1 ⊢
  have HMA := Lib.hid hma
  clear hma
  have xl := X1.out.lt
  have x0 := X1.out.cell 0
  have x1 := X1.out.cell 1
  have x2 := X1.out.cell 2
  have x3 := X1.out.cell 3
  have x4 := X1.out.cell 4
  have x5 := X1.out.cell 5
  simp only [List.getElem?_toArray, List.getElem?_cons_zero, List.getElem?_cons_succ] at x0 x1 x2 x3 x4 x5
  go_wp2_with fail
  refine (mput_yes k p nd h s A D m c _ B1.out HM.out HR.out HS.out).mono ?_
  rintro e w2 ⟨v, rfl, hown, hb⟩
  have E2 := Lib.hid (E1.out.trans (hb.mono E1.out.size))
  have X2 := Lib.hid (X1.out.below hb X1.out.lt)
  have B2 := Lib.hid (bts_below B1.out hb)
  obtain ⟨A1, c1, rfl, hP1, hlt1⟩ := bts_own (l := putL k p nd h s D) hown HLB.out rfl
  have P2 := Lib.hid hP1
  have HC1 : Hid ((putL k p nd h s D).length ≤ c1) := Lib.hid (own_cap hown)
  obtain ⟨l, hl⟩ : ∃ l, l = putL k p nd h s D := ⟨_, rfl⟩
  obtain ⟨n, hnl⟩ : ∃ n, n = l.length := ⟨_, rfl⟩
  have HLL := Lib.hid hl
  have HNL := Lib.hid hnl
  have HN6 : Hid (n ≤ 1000000) := Lib.hid (by rw [hnl, hl]; unfold putL putH; have := HDL.out; have := HM.out; simp [bytesOf, sizeB]; omega)
  rw [← hl] at P2 HC1 HPP HLB ⊢
  rw [← hnl] at HC1 ⊢
  clear hb E1 X1 B1 x0 x1 x2 x3 x4 x5 xl hown hP1 hlt1 hl hnl
  have xl := X2.out.lt
  have x0 := X2.out.cell 0
  have x1 := X2.out.cell 1
  have x2 := X2.out.cell 2
  have x3 := X2.out.cell 3
  have x4 := X2.out.cell 4
  have x5 := X2.out.cell 5
  simp only [List.getElem?_toArray, List.getElem?_cons_zero, List.getElem?_cons_succ] at x0 x1 x2 x3 x4 x5
  go_wp2_with fail
  refine (rright_any (k : Int) (p : Int) (nd : Int) (h : Int) s A D m c _ B2.out HM.out (by omega)).mono ?_
  rintro e w3 ⟨rfl, hb⟩
  rw [HR.out]
  have E3 := Lib.hid (E2.out.trans (hb.mono E2.out.size))
  have X3 := Lib.hid (X2.out.below hb X2.out.lt)
  have B3 := Lib.hid (bts_below B2.out hb)
  have P3 := Lib.hid (bts_below P2.out hb)
  clear hb E2 X2 B2 P2 x0 x1 x2 x3 x4 x5 xl
  go_wp2_with fail
  refine (mget_u A1 l n c1 _ HNL.out.symm HN6.out HC1.out P3.out).mono ?_
  rintro e w4 ⟨A2, c2, rfl, hB2, hb⟩
  have HVD : Hid (vD l = D) := Lib.hid (by unfold vD; rw [HPP.out.1]; exact HPP.out.2.2.2.2.2.2)
  rw [show vK l = (k : Int) by unfold vK; rw [HPP.out.1, HPP.out.2.1]; rfl, show vP l = (p : Int) by unfold vP; rw [HPP.out.1, HPP.out.2.2.1]; rfl, show vN l = (nd : Int) by unfold vN; rw [HPP.out.1, HPP.out.2.2.2.1]; rfl,
    show vH l = (h : Int) by unfold vH; rw [HPP.out.1, HPP.out.2.2.2.2.1]; rfl, show vS l = s by unfold vS; rw [HPP.out.1, HPP.out.2.2.2.2.2.1]; rfl, HVD.out, HM.out, HPP.out.1]
  rw [HVD.out] at hB2
  have E4 := Lib.hid (E3.out.trans (hb.mono E3.out.size))
  have X4 := Lib.hid (X3.out.below hb X3.out.lt)
  have B4 := Lib.hid (bts_below B3.out hb)
  have P4 := Lib.hid (bts_below P3.out hb)
  have C4 := Lib.hid hB2
  clear hb E3 X3 B3 P3 hB2
  unfold msV
  go_wp2_with fail
  have E5 : Hid (Below w4.heap.size w4 (w4.alloc (.cells #[.int .i64 (k : Int), .int .i64 (p : Int), .int .i64 (nd : Int), .int .i64 (h : Int), .int .u16 (s : Int), .slice A2 m c2] 27)).drew) := Lib.hid (((Below.refl _ w4).alloc (Nat.le_refl _) _).drew)
  have Y5 : Hid (Blk (w4.alloc (.cells #[.int .i64 (k : Int), .int .i64 (p : Int), .int .i64 (nd : Int), .int .i64 (h : Int), .int .u16 (s : Int), .slice A2 m c2] 27)).drew w4.heap.size 27 #[.int .i64 (k : Int), .int .i64 (p : Int), .int .i64 (nd : Int), .int .i64 (h : Int), .int .u16 (s : Int), .slice A2 m c2]) := Lib.hid (Blkf.new_at _ _ _ _ rfl)
  have X5 := Lib.hid (X4.out.below E5.out X4.out.lt)
  have B5 := Lib.hid (bts_below B4.out E5.out)
  have P5 := Lib.hid (bts_below P4.out E5.out)
  have C5 := Lib.hid (bts_below C4.out E5.out)
  have E6 := Lib.hid (E4.out.trans (E5.out.mono E4.out.size))
  generalize w4.heap.size = g5 at *
  refine wp_region_plan [(0, false), (1, true), (2, false), (3, false), (4, false), (5, false), (6, false), (7, false), (8, false), (9, false), (10, true), (11, false), (12, false), (13, false), (14, false), (15, false), (16, false), (17, false), (18, false), (19, true), (20, false), (21, false), (22, false), (23, false), (24, true), (25, false), (26, false)] (by kernel_rfl) (by kernel_rfl) (fun _ d _ _ _ h => by cases d <;> exact h) ?_
  generalize (w4.alloc (.cells #[.int .i64 (k : Int), .int .i64 (p : Int), .int .i64 (nd : Int), .int .i64 (h : Int), .int .u16 (s : Int), .slice A2 m c2] 27)).drew = w5 at *
  clear E4 E5 X4 B4 P4 C4
  have xl := X5.out.lt
  have x0 := fun (W' : World) (h : Ext w5 W') => (h.cell (p := ⟨ma, 0, none⟩) xl).trans (X5.out.cell 0)
  have x1 := fun (W' : World) (h : Ext w5 W') => (h.cell (p := ⟨ma, 1, none⟩) xl).trans (X5.out.cell 1)
  have x2 := fun (W' : World) (h : Ext w5 W') => (h.cell (p := ⟨ma, 2, none⟩) xl).trans (X5.out.cell 2)
  have x3 := fun (W' : World) (h : Ext w5 W') => (h.cell (p := ⟨ma, 3, none⟩) xl).trans (X5.out.cell 3)
  have x4 := fun (W' : World) (h : Ext w5 W') => (h.cell (p := ⟨ma, 4, none⟩) xl).trans (X5.out.cell 4)
  have x5 := fun (W' : World) (h : Ext w5 W') => (h.cell (p := ⟨ma, 5, none⟩) xl).trans (X5.out.cell 5)
  simp only [List.getElem?_toArray, List.getElem?_cons_zero, List.getElem?_cons_succ] at x0 x1 x2 x3 x4 x5
  iterate 1 (refine plan_take (v := ?_) rfl (by kernel_rfl) ?_ ?_; rotate_left; (focus (intro w' hw'; try go_simp; try with_reducible rfl)); simp only [Act.put, List.setIfInBounds_toArray, List.set_cons_zero, List.set_cons_succ])
  clear x0 x1 x2 x3 x4 x5 xl
  refine plan_call rfl (by kernel_rfl) (by go_simp; exact ⟨rfl, rfl⟩) ?_
  refine (mright_any (k : Int) (p : Int) (nd : Int) (h : Int) s A D m c _ B5.out HM.out (by omega)).mono ?_
  rintro e w7 ⟨rfl, hb⟩
  rw [HR.out]
  refine ⟨_, rfl, hb, ?_⟩
  simp only [Act.put, List.setIfInBounds_toArray, List.set_cons_zero, List.set_cons_succ]
  have E7 := Lib.hid (E6.out.trans (hb.mono E6.out.size))
  have X7 := Lib.hid (X5.out.below hb X5.out.lt)
  have Y7 := Lib.hid (Y5.out.below hb Y5.out.lt)
  have B7 := Lib.hid (bts_below B5.out hb)
  have P7 := Lib.hid (bts_below P5.out hb)
  have C7 := Lib.hid (bts_below C5.out hb)
  clear hb X5 Y5 B5 P5 C5
  have xl := X7.out.lt
  have x0 := fun (W' : World) (h : Ext w7 W') => (h.cell (p := ⟨ma, 0, none⟩) xl).trans (X7.out.cell 0)
  have x1 := fun (W' : World) (h : Ext w7 W') => (h.cell (p := ⟨ma, 1, none⟩) xl).trans (X7.out.cell 1)
  have x2 := fun (W' : World) (h : Ext w7 W') => (h.cell (p := ⟨ma, 2, none⟩) xl).trans (X7.out.cell 2)
  have x3 := fun (W' : World) (h : Ext w7 W') => (h.cell (p := ⟨ma, 3, none⟩) xl).trans (X7.out.cell 3)
  have x4 := fun (W' : World) (h : Ext w7 W') => (h.cell (p := ⟨ma, 4, none⟩) xl).trans (X7.out.cell 4)
  have x5 := fun (W' : World) (h : Ext w7 W') => (h.cell (p := ⟨ma, 5, none⟩) xl).trans (X7.out.cell 5)
  simp only [List.getElem?_toArray, List.getElem?_cons_zero, List.getElem?_cons_succ] at x0 x1 x2 x3 x4 x5
  have cv := fun (W' : World) (h : Ext w7 W') => conv_bts (c := c1) (bts_below P7.out h) HNL.out.symm
  iterate 8 (refine plan_take (v := ?_) rfl (by kernel_rfl) ?_ ?_; rotate_left; (focus (intro w' hw'; try go_simp; try with_reducible rfl)); simp only [Act.put, List.setIfInBounds_toArray, List.set_cons_zero, List.set_cons_succ])
  clear x0 x1 x2 x3 x4 x5 xl cv
  refine plan_call rfl (by kernel_rfl) (by go_simp; exact ⟨rfl, rfl⟩) ?_
  refine (rput_yes k p nd h s A D m c _ B7.out HM.out HBD.out.1 HBD.out.2.1 HBD.out.2.2.1 HBD.out.2.2.2 HDL.out HS.out).mono ?_
  rintro e w8 ⟨rfl, hb⟩
  rw [← HLL.out]
  refine ⟨_, rfl, hb, ?_⟩
  simp only [Act.put, List.setIfInBounds_toArray, List.set_cons_zero, List.set_cons_succ]
  have E8 := Lib.hid (E7.out.trans (hb.mono E7.out.size))
  have X8 := Lib.hid (X7.out.below hb X7.out.lt)
  have Y8 := Lib.hid (Y7.out.below hb Y7.out.lt)
  have B8 := Lib.hid (bts_below B7.out hb)
  have C8 := Lib.hid (bts_below C7.out hb)
  clear hb X7 Y7 B7 C7
  generalize strB l = T at *
  have xl := X8.out.lt
  have yl := Y8.out.lt
  have x0 := fun (W' : World) (h : Ext w8 W') => (h.cell (p := ⟨ma, 0, none⟩) xl).trans (X8.out.cell 0)
  have x1 := fun (W' : World) (h : Ext w8 W') => (h.cell (p := ⟨ma, 1, none⟩) xl).trans (X8.out.cell 1)
  have x2 := fun (W' : World) (h : Ext w8 W') => (h.cell (p := ⟨ma, 2, none⟩) xl).trans (X8.out.cell 2)
  have x3 := fun (W' : World) (h : Ext w8 W') => (h.cell (p := ⟨ma, 3, none⟩) xl).trans (X8.out.cell 3)
  have x4 := fun (W' : World) (h : Ext w8 W') => (h.cell (p := ⟨ma, 4, none⟩) xl).trans (X8.out.cell 4)
  have x5 := fun (W' : World) (h : Ext w8 W') => (h.cell (p := ⟨ma, 5, none⟩) xl).trans (X8.out.cell 5)
  have y0 := fun (W' : World) (h : Ext w8 W') => (h.cell (p := ⟨g5, 0, none⟩) yl).trans (Y8.out.cell 0)
  have y1 := fun (W' : World) (h : Ext w8 W') => (h.cell (p := ⟨g5, 1, none⟩) yl).trans (Y8.out.cell 1)
  have y2 := fun (W' : World) (h : Ext w8 W') => (h.cell (p := ⟨g5, 2, none⟩) yl).trans (Y8.out.cell 2)
  have y3 := fun (W' : World) (h : Ext w8 W') => (h.cell (p := ⟨g5, 3, none⟩) yl).trans (Y8.out.cell 3)
  have y4 := fun (W' : World) (h : Ext w8 W') => (h.cell (p := ⟨g5, 4, none⟩) yl).trans (Y8.out.cell 4)
  have y5 := fun (W' : World) (h : Ext w8 W') => (h.cell (p := ⟨g5, 5, none⟩) yl).trans (Y8.out.cell 5)
  simp only [List.getElem?_toArray, List.getElem?_cons_zero, List.getElem?_cons_succ] at x0 x1 x2 x3 x4 x5 y0 y1 y2 y3 y4 y5
  iterate 8 (refine plan_take (v := ?_) rfl (by kernel_rfl) ?_ ?_; rotate_left; (focus (intro w' hw'; try go_simp; try with_reducible rfl)); simp only [Act.put, List.setIfInBounds_toArray, List.set_cons_zero, List.set_cons_succ])
  clear x0 x1 x2 x3 x4 x5 y0 y1 y2 y3 y4 y5 xl yl
  refine plan_call rfl (by kernel_rfl) (by go_simp; exact ⟨rfl, rfl⟩) ?_
  refine (rsame_any (k : Int) (p : Int) (nd : Int) (h : Int) s A2 D m c2 (k : Int) (p : Int) (nd : Int) (h : Int) s A D m c _ C8.out HM.out B8.out HM.out).mono ?_
  rintro e w9 ⟨rfl, hb⟩
  rw [HSM.out]
  refine ⟨_, rfl, hb, ?_⟩
  simp only [Act.put, List.setIfInBounds_toArray, List.set_cons_zero, List.set_cons_succ]
  have E9 := Lib.hid (E8.out.trans (hb.mono E8.out.size))
  have X9 := Lib.hid (X8.out.below hb X8.out.lt)
  have Y9 := Lib.hid (Y8.out.below hb Y8.out.lt)
  have B9 := Lib.hid (bts_below B8.out hb)
  have C9 := Lib.hid (bts_below C8.out hb)
  clear hb X8 Y8 B8 C8
  have xl := X9.out.lt
  have yl := Y9.out.lt
  have x0 := fun (W' : World) (h : Ext w9 W') => (h.cell (p := ⟨ma, 0, none⟩) xl).trans (X9.out.cell 0)
  have x1 := fun (W' : World) (h : Ext w9 W') => (h.cell (p := ⟨ma, 1, none⟩) xl).trans (X9.out.cell 1)
  have x2 := fun (W' : World) (h : Ext w9 W') => (h.cell (p := ⟨ma, 2, none⟩) xl).trans (X9.out.cell 2)
  have x3 := fun (W' : World) (h : Ext w9 W') => (h.cell (p := ⟨ma, 3, none⟩) xl).trans (X9.out.cell 3)
  have x4 := fun (W' : World) (h : Ext w9 W') => (h.cell (p := ⟨ma, 4, none⟩) xl).trans (X9.out.cell 4)
  have x5 := fun (W' : World) (h : Ext w9 W') => (h.cell (p := ⟨ma, 5, none⟩) xl).trans (X9.out.cell 5)
  have y0 := fun (W' : World) (h : Ext w9 W') => (h.cell (p := ⟨g5, 0, none⟩) yl).trans (Y9.out.cell 0)
  have y1 := fun (W' : World) (h : Ext w9 W') => (h.cell (p := ⟨g5, 1, none⟩) yl).trans (Y9.out.cell 1)
  have y2 := fun (W' : World) (h : Ext w9 W') => (h.cell (p := ⟨g5, 2, none⟩) yl).trans (Y9.out.cell 2)
  have y3 := fun (W' : World) (h : Ext w9 W') => (h.cell (p := ⟨g5, 3, none⟩) yl).trans (Y9.out.cell 3)
  have y4 := fun (W' : World) (h : Ext w9 W') => (h.cell (p := ⟨g5, 4, none⟩) yl).trans (Y9.out.cell 4)
  have y5 := fun (W' : World) (h : Ext w9 W') => (h.cell (p := ⟨g5, 5, none⟩) yl).trans (Y9.out.cell 5)
  simp only [List.getElem?_toArray, List.getElem?_cons_zero, List.getElem?_cons_succ] at x0 x1 x2 x3 x4 x5 y0 y1 y2 y3 y4 y5
  iterate 4 (refine plan_take (v := ?_) rfl (by kernel_rfl) ?_ ?_; rotate_left; (focus (intro w' hw'; try go_simp; try with_reducible rfl)); simp only [Act.put, List.setIfInBounds_toArray, List.set_cons_zero, List.set_cons_succ])
  clear x0 x1 x2 x3 x4 x5 y0 y1 y2 y3 y4 y5 xl yl
  refine plan_call rfl (by kernel_rfl) (by go_simp; exact ⟨rfl, rfl⟩) ?_
  refine (same_any (k : Int) (p : Int) (nd : Int) (h : Int) s A2 D m c2 (k : Int) (p : Int) (nd : Int) (h : Int) s A D m c _ C9.out HM.out B9.out HM.out).mono ?_
  rintro e w10 ⟨rfl, hb⟩
  rw [HSM.out]
  refine ⟨_, rfl, hb, ?_⟩
  simp only [Act.put, List.setIfInBounds_toArray, List.set_cons_zero, List.set_cons_succ]
  have E10 := Lib.hid (E9.out.trans (hb.mono E9.out.size))
  clear hb
  iterate 2 (refine plan_take (v := ?_) rfl (by kernel_rfl) ?_ ?_; rotate_left; (focus (intro w' hw'; try go_simp; try with_reducible rfl)); simp only [Act.put, List.setIfInBounds_toArray, List.set_cons_zero, List.set_cons_succ])
  refine plan_end ?_
  go_wp2_with fail
  go_ret
  exact ⟨rfl, E10.out⟩
theorem Law.MsgPuts (a0 a1 a2 a3 a4 : Int) (A : Option Addr) (m c : Nat) (z : List Int) (W : World)
    (w0 : (Lit.int .i64 a0).wf = true) (w1 : (Lit.int .i64 a1).wf = true) (w2 : (Lit.int .i64 a2).wf = true) (w3 : (Lit.int .i64 a3).wf = true) (w4 : (Lit.int .u16 a4).wf = true) (hz : IsRow .u8 W A m c z) (hF : FW W) :
    Calls Tryd.prog 4 #[.agg #[.int .i64 a0, .int .i64 a1, .int .i64 a2, .int .i64 a3, .int .u16 a4, .slice A m c]] W fun e w' => e = .returned (.bool true) ∧ Below W.heap.size W w' := by
  have hw : 0 ≤ a4 ∧ a4 < 65536 := by
    simp [Lit.wf, IntKind.min, IntKind.max, IntKind.signed, IntKind.bits] at w4
    omega
  clear w0 w1 w2 w3
  obtain ⟨s, rfl⟩ := Int.eq_ofNat_of_zero_le hw.1
  obtain ⟨D, hD, hB, hm⟩ := bts_of_row hz
  by_cases hbig : 5000 < m
  · exact puts_big a0 a1 a2 a3 s A D m c W hB hD hbig hF
  · cases hr : rightM a0 a1 a2 a3 s D with
    | false => exact puts_no a0 a1 a2 a3 s A D m c W hB hD (by omega) hF hr
    | true =>
      have hh := hr
      simp only [rightM, headB, Bool.and_eq_true, decide_eq_true_eq] at hh
      obtain ⟨k, rfl⟩ := Int.eq_ofNat_of_zero_le (show 0 ≤ a0 by omega)
      obtain ⟨p, rfl⟩ := Int.eq_ofNat_of_zero_le (show 0 ≤ a1 by omega)
      obtain ⟨nd, rfl⟩ := Int.eq_ofNat_of_zero_le (show 0 ≤ a2 by omega)
      obtain ⟨h, rfl⟩ := Int.eq_ofNat_of_zero_le (show 0 ≤ a3 by omega)
      exact puts_yes k p nd h s A D m c W hB hD (by omega) hF hr (by omega)
end Go.Proofs.YtkkgigdgbiklmaaDoor
