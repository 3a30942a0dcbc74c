/- Get. -/
import Derived.Test.YtkkgigdgbiklmaaDoorMsgB
import Derived.Test.YtkkgigdgbiklmaaDoorMsgN
import Derived.Test.YtkkgigdgbiklmaaDoorPlanI
import Derived.Test.YtkkgigdgbiklmaaDoorWide
namespace Go.Proofs.YtkkgigdgbiklmaaDoor
open Go.RowKit

/-- A last store of a tree's. -/
theorem pt_last {P : Program} {ls : List Oper} {Q : Exit → Act → World → Prop} {R : World → World → Prop} {i : Nat} {o : Oper} {r : PT} {a : Act} {w : World} (ho : opAt ls i = some o) (hw : Region.wanted o (yielded ls.toArray a.tmps) = true) (hwa : waitsAll .any ls.toArray i = true)
    (h : ∀ K : Act → World → Prop, (∀ a' w', wpPT R P ls.toArray Q r a' w' → K a' w') → o.wp P a w K Q) :
    wpOp P ls.toArray Q i (fun a' w' => (waitsAll .any ls.toArray i = true ∨ R w w') ∧ wpPT R P ls.toArray Q r a' w') a w := by
  unfold wpOp
  simp only [← opAt_eq, ho, hw, if_true]
  exact .inl (h _ fun _ _ h => ⟨.inl hwa, h⟩)
def gK (l : List Nat) : Nat := l.getD 0 0
def gN (l : List Nat) : Nat := l.getD 1 0
def gH (l : List Nat) : Nat := l.getD 2 0
def gP (l : List Nat) : Nat := leNat ((l.drop 3).take 4)
def gS (l : List Nat) : Nat := leNat ((l.drop 7).take 2)
def gZ (l : List Nat) : Nat := leNat ((l.drop 9).take 2)
def rightL (l : List Nat) : Bool := rightM (gK l : Int) (gP l : Int) (gN l : Int) (gH l : Int) (gS l) (l.drop 11)
def zeroM : Value := .agg #[.int .i64 0, .int .i64 0, .int .i64 0, .int .i64 0, .int .u16 0, .slice none 0 0]
theorem sub_bts {w : World} {b o : Nat} {l : List Nat} (h : Bts w (some ⟨b, o, none⟩) l) (p q : Nat) (hl : p + q ≤ l.length) (hq : 0 < q) : Bts w (some ⟨b, o + p, none⟩) ((l.drop p).take q) := by
  have hlen : ((l.drop p).take q).length = q := by rw [List.length_take, List.length_drop]; omega
  refine ⟨fun i => ?_, fun _ => ⟨b, o + p, rfl, fun i hi => ?_⟩⟩
  · rw [List.getD_eq_getElem?_getD, List.getElem?_take]
    split
    · rw [List.getElem?_drop, ← List.getD_eq_getElem?_getD]
      exact h.1 _
    · decide
  · obtain ⟨b', o', e, hc⟩ := h.2 (by omega)
    injection e with e
    injection e with e1 e2
    subst e1 e2
    rw [hlen] at hi
    rw [Nat.add_assoc, hc (p + i) (by omega), List.getD_eq_getElem?_getD, List.getD_eq_getElem?_getD, List.getElem?_take_of_lt hi, List.getElem?_drop]
set_option maxHeartbeats 1000000 in
theorem mget_short (A : Option Addr) (l : List Nat) (n c : Nat) (W : World) (hl : l.length = n) (hn : n < 11) :
    Calls Tryd.prog 8 #[.slice A n c] W fun e w' => e = .returned (.tuple #[zeroM, .bool false]) ∧ Below W.heap.size W w' := by
  have hnI : (n : Int) < 11 := by omega
  have HE : Hid (Below W.heap.size W (W.alloc (.cells #[.int .i64 0, .int .i64 0, .int .i64 0, .int .i64 0, .int .u16 0, .slice none 0 0] 27))) := Lib.hid ((Below.refl _ W).alloc (Nat.le_refl _) _)
  clear hl hn
  go_enter Tryd.func8, Tryd.ntmps8
  go_wp2_with fail
  refine bodyPost_ret (v := .tuple #[zeroM, .bool false]) (by simp [zeroM, results, Tryd.results8, go_sem]) rfl ?_
  exact ⟨rfl, HE.out⟩
set_option maxHeartbeats 1000000 in
theorem mget_size (b o : Nat) (l : List Nat) (n c : Nat) (W : World) (hl : l.length = n) (hn : 11 ≤ n) (hn2 : n ≤ 1000000) (hc : n ≤ c) (hB : Bts W (some ⟨b, o, none⟩) l) (hz : gZ l ≠ n - 11) :
    Calls Tryd.prog 8 #[.slice (some ⟨b, o, none⟩) n c] W fun e w' => e = .returned (.tuple #[zeroM, .bool false]) ∧ Below W.heap.size W w' := by
  have hnI : ¬ (n : Int) < 11 := by omega
  have HE : Hid (Below W.heap.size W (W.alloc (.cells #[.int .i64 0, .int .i64 0, .int .i64 0, .int .i64 0, .int .u16 0, .slice none 0 0] 27))) := Lib.hid ((Below.refl _ W).alloc (Nat.le_refl _) _)
  have hX : Blk (W.alloc (.cells #[.int .i64 0, .int .i64 0, .int .i64 0, .int .i64 0, .int .u16 0, .slice none 0 0] 27)) W.heap.size 27 #[.int .i64 0, .int .i64 0, .int .i64 0, .int .i64 0, .int .u16 0, .slice none 0 0] := Blkf.new_at _ _ _ _ rfl
  have HX := Lib.hid hX
  have HS := Lib.hid (sub_bts (bts_below hB HE.out) 9 2 (by omega) (by decide))
  have HL : Hid (((l.drop 9).take 2).length = 2) := Lib.hid (by rw [List.length_take, List.length_drop]; omega)
  have hc9 : ¬ c = 9 := by omega
  have hc11 : 11 ≤ c := by omega
  have hnw : wrap64 ((n : Int) - 11) = (n : Int) - 11 := by unfold wrap64; omega
  have hne : ((gZ l : Int) == (n : Int) - 11) = false := by simp; omega
  have HZ : Hid (gZ l = leNat ((l.drop 9).take 2)) := Lib.hid rfl
  generalize gZ l = z at *
  clear hl hB hX hz
  go_enter Tryd.func8, Tryd.ntmps8
  go_wp2_with fail
  refine (number_any _ _ 2 _ _ HS.out HL.out (by decide) (by decide)).mono ?_
  rintro e w1 ⟨rfl, hb⟩
  rw [← HZ.out]
  have HX1 := Lib.hid (HX.out.below hb HX.out.lt)
  have HE1 := Lib.hid (HE.out.trans (hb.mono HE.out.size))
  clear hb
  have e0 := HX1.out.cell 0
  have e1 := HX1.out.cell 1
  have e2 := HX1.out.cell 2
  have e3 := HX1.out.cell 3
  have e4 := HX1.out.cell 4
  have e5 := HX1.out.cell 5
  have f0 := Blk.frozen HX1.out 0
  have f1 := Blk.frozen HX1.out 1
  have f2 := Blk.frozen HX1.out 2
  have f3 := Blk.frozen HX1.out 3
  have f4 := Blk.frozen HX1.out 4
  have f5 := Blk.frozen HX1.out 5
  have xl := HX1.out.lt
  simp only [List.getElem?_toArray, List.getElem?_cons_zero, List.getElem?_cons_succ] at e0 e1 e2 e3 e4 e5
  go_wp2_with fail
  refine bodyPost_ret (v := .tuple #[zeroM, .bool false]) (res_cell_slot Tryd.results8 _ _ W.heap.size 27 _ _ rfl rfl (Blkf.set_ (Blkf.set_ (Blkf.set_ (Blkf.set_ (Blkf.set_ (Blkf.set_ HX1.out 0 (.int .i64 0)) 1 (.int .i64 0)) 2 (.int .i64 0)) 3 (.int .i64 0)) 4 (.int .u16 0)) 5 (.slice none 0 0)) (by kernel_rfl)) rfl ?_
  exact ⟨rfl, ((((((HE1.out.setCell (p := ⟨W.heap.size, 0, none⟩) (Nat.le_refl _) _).setCell (p := ⟨W.heap.size, 1, none⟩) (Nat.le_refl _) _).setCell (p := ⟨W.heap.size, 2, none⟩) (Nat.le_refl _) _).setCell (p := ⟨W.heap.size, 3, none⟩) (Nat.le_refl _) _).setCell (p := ⟨W.heap.size, 4, none⟩) (Nat.le_refl _) _).setCell (p := ⟨W.heap.size, 5, none⟩) (Nat.le_refl _) _)⟩
/-- A message's block is written: bytes stand elsewhere. -/
theorem bts_msg {w w' : World} {A : Option Addr} {l : List Nat} {g : Nat} {k p nd h s : Int} {v : Value} (hB : Bts w A l) (hv : ∀ x : Int, v ≠ .int .u8 x) (hG : Blk w g 27 #[.int .i64 k, .int .i64 p, .int .i64 nd, .int .i64 h, .int .u16 s, v]) (hk : Keeps (fun x => x = g) w w') : Bts w' A l := by
  refine ⟨hB.1, fun hl => ?_⟩
  obtain ⟨b, o, rfl, hc⟩ := hB.2 hl
  refine ⟨b, o, rfl, fun i hi => ?_⟩
  have h1 := hc i hi
  have hb : b ≠ g := by
    intro hb
    subst hb
    rw [hG.cell (o + i)] at h1
    rcases (show o + i = 0 ∨ o + i = 1 ∨ o + i = 2 ∨ o + i = 3 ∨ o + i = 4 ∨ o + i = 5 ∨ 6 ≤ o + i by omega) with e | e | e | e | e | e | e
    · rw [e] at h1; simp at h1
    · rw [e] at h1; simp at h1
    · rw [e] at h1; simp at h1
    · rw [e] at h1; simp at h1
    · rw [e] at h1; simp at h1
    · rw [e] at h1
      simp at h1
      exact hv _ h1
    · rw [Array.getElem?_eq_none (by simpa using e)] at h1; cases h1
  have h2 := hk.block b (cell_lt h1) hb
  rw [World.cell?_of_block (a := ⟨b, o + i, none⟩) h2]
  exact h1
/-- Six cells stored one behind the other. -/
def set6 (w : World) (g : Nat) (a b c d e f : Value) : World := (((((w.setCell ⟨g, 0, none⟩ a).setCell ⟨g, 1, none⟩ b).setCell ⟨g, 2, none⟩ c).setCell ⟨g, 3, none⟩ d).setCell ⟨g, 4, none⟩ e).setCell ⟨g, 5, none⟩ f
theorem set6_blk {w : World} {g : Nat} {t : TypeId} {a0 b0 c0 d0 e0 f0 : Value} (h : Blk w g t #[a0, b0, c0, d0, e0, f0]) (a b c d e f : Value) : Blk (set6 w g a b c d e f) g t #[a, b, c, d, e, f] :=
  Blkf.set_ (Blkf.set_ (Blkf.set_ (Blkf.set_ (Blkf.set_ (Blkf.set_ h 0 a) 1 b) 2 c) 3 d) 4 e) 5 f
theorem set6_keeps {w w' : World} {F : Nat → Prop} {g : Nat} (k : Keeps F w w') (hg : F g ∨ w.heap.size ≤ g) (a b c d e f : Value) : Keeps F w (set6 w' g a b c d e f) :=
  (((((k.setCell (p := ⟨g, 0, none⟩) hg a).setCell (p := ⟨g, 1, none⟩) hg b).setCell (p := ⟨g, 2, none⟩) hg c).setCell (p := ⟨g, 3, none⟩) hg d).setCell (p := ⟨g, 4, none⟩) hg e).setCell (p := ⟨g, 5, none⟩) hg f
/-- What each operation of the great statement yields. -/
def GetP (l : List Nat) (W0 : World) (i : Nat) (v : Value) (w : World) : Prop :=
  match i with
  | 14 => v = .int .i64 (gP l : Int)
  | 17 => v = .int .i64 (gS l : Int)
  | 18 => v = .int .u16 (gS l : Int)
  | 21 => ∃ A c, v = .slice A (l.length - 11) c ∧ Bts w A (l.drop 11) ∧ (∀ a, A = some a → W0.heap.size ≤ a.block ∧ a.block < w.heap.size)
  | 22 => ∃ A c, v = .agg #[.int .i64 (gK l : Int), .int .i64 (gP l : Int), .int .i64 (gN l : Int), .int .i64 (gH l : Int), .int .u16 (gS l : Int), .slice A (l.length - 11) c] ∧ Bts w A (l.drop 11) ∧ (∀ a, A = some a → W0.heap.size ≤ a.block ∧ a.block < w.heap.size)
  | _ => ∃ g, v = .pointer (some ⟨g, 0, none⟩) ∧ W0.heap.size < g ∧ Blk w g 27 #[.int .i64 0, .int .i64 0, .int .i64 0, .int .i64 0, .int .u16 0, .slice none 0 0]
theorem getP_later (l : List Nat) (W0 : World) (i : Nat) (v : Value) (w w' : World) (h : Ext w w') (hp : GetP l W0 i v w) : GetP l W0 i v w' := by
  unfold GetP at hp ⊢
  split at hp
  · exact hp
  · exact hp
  · exact hp
  · obtain ⟨A, c, e, hb, ha⟩ := hp
    exact ⟨A, c, e, bts_below hb h, fun a e => ⟨(ha a e).1, Nat.lt_of_lt_of_le (ha a e).2 h.size⟩⟩
  · obtain ⟨A, c, e, hb, ha⟩ := hp
    exact ⟨A, c, e, bts_below hb h, fun a e => ⟨(ha a e).1, Nat.lt_of_lt_of_le (ha a e).2 h.size⟩⟩
  · obtain ⟨g, e, hg, hb⟩ := hp
    exact ⟨g, e, hg, hb.below h hb.lt⟩
def GetM (l : List Nat) (n : Nat) (W : World) (e : Ending) (w' : World) : Prop :=
  Below W.heap.size W w' ∧ if rightL l then ∃ A' c', e = .returned (.tuple #[msV (gK l : Int) (gP l : Int) (gN l : Int) (gH l : Int) (gS l) A' (n - 11) c', .bool true]) ∧ Bts w' A' (l.drop 11) else e = .returned (.tuple #[zeroM, .bool false])
set_option maxRecDepth 100000 in
set_option maxHeartbeats 4000000 in
theorem mget_long (b o : Nat) (l : List Nat) (n c : Nat) (W : World) (hl : l.length = n) (hn : 11 ≤ n) (hn2 : n ≤ 1000000) (hc : n ≤ c) (hB : Bts W (some ⟨b, o, none⟩) l) (hz : gZ l = n - 11) :
    Calls Tryd.prog 8 #[.slice (some ⟨b, o, none⟩) n c] W (GetM l n W) := by
  have hnI : ¬ (n : Int) < 11 := by omega
  have HE : Hid (Below W.heap.size W (W.alloc (.cells #[.int .i64 0, .int .i64 0, .int .i64 0, .int .i64 0, .int .u16 0, .slice none 0 0] 27))) := Lib.hid ((Below.refl _ W).alloc (Nat.le_refl _) _)
  have HX : Hid (Blk (W.alloc (.cells #[.int .i64 0, .int .i64 0, .int .i64 0, .int .i64 0, .int .u16 0, .slice none 0 0] 27)) W.heap.size 27 #[.int .i64 0, .int .i64 0, .int .i64 0, .int .i64 0, .int .u16 0, .slice none 0 0]) := Lib.hid (Blkf.new_at _ _ _ _ rfl)
  have HBT := Lib.hid hB
  have HLN := Lib.hid hl
  have HS := Lib.hid (sub_bts (bts_below hB HE.out) 9 2 (by omega) (by decide))
  have HL : Hid (((l.drop 9).take 2).length = 2) := Lib.hid (by rw [List.length_take, List.length_drop]; omega)
  have hc3 : ¬ c = 3 := by omega
  have hc7 : ¬ c = 7 := by omega
  have hc9 : ¬ c = 9 := by omega
  have hc11 : 11 ≤ c := by omega
  have hnw : wrap64 ((n : Int) - 11) = (n : Int) - 11 := by unfold wrap64; omega
  have hzI : (leNat ((l.drop 9).take 2) : Int) = (n : Int) - 11 := by
    have : leNat ((l.drop 9).take 2) = n - 11 := hz
    omega
  have HZ := Lib.hid hzI
  obtain ⟨A3, hA3, hB3⟩ : ∃ A3 : Option Addr, (if c = 11 then some (⟨b, o, none⟩ : Addr) else some ⟨b, o + 11, none⟩) = A3 ∧ Bts W A3 (l.drop 11) := by
    by_cases h11 : c = 11
    · refine ⟨_, rfl, ?_⟩
      rw [if_pos h11]
      have e : l.drop 11 = [] := List.drop_eq_nil_of_le (by omega)
      rw [e]
      exact ⟨fun i => by simp, fun h => by simp at h⟩
    · refine ⟨_, rfl, ?_⟩
      rw [if_neg h11]
      refine ⟨fun i => by rw [List.getD_eq_getElem?_getD, List.getElem?_drop, ← List.getD_eq_getElem?_getD]; exact hB.1 _, fun hp => ⟨b, o + 11, rfl, fun i hi => ?_⟩⟩
      obtain ⟨b', o', e, hcl⟩ := hB.2 (by omega)
      injection e with e
      injection e with e1 e2
      subst e1 e2
      rw [List.length_drop] at hi
      rw [Nat.add_assoc, hcl (11 + i) (by omega), List.getD_eq_getElem?_getD, List.getD_eq_getElem?_getD, List.getElem?_drop]
  have HB3 := Lib.hid hB3
  clear hl hB hz hzI hB3
  go_enter Tryd.func8, Tryd.ntmps8
  go_wp2_with fail
  refine (number_any _ _ 2 _ _ HS.out HL.out (by decide) (by decide)).mono ?_
  rintro e w1 ⟨rfl, hb⟩
  rw [HZ.out]
  have HX1 := Lib.hid (HX.out.below hb HX.out.lt)
  have HE1 := Lib.hid (HE.out.trans (hb.mono HE.out.size))
  have hbt1 := bts_below HBT.out HE1.out
  obtain ⟨b', o', e, hcl⟩ := hbt1.2 (by rw [HLN.out]; omega)
  injection e with e
  injection e with e1 e2
  subst e1 e2
  have k0 := hcl 0 (by rw [HLN.out]; omega)
  have k1 := hcl 1 (by rw [HLN.out]; omega)
  have k2 := hcl 2 (by rw [HLN.out]; omega)
  rw [Nat.add_zero] at k0
  have hbl : b < w1.heap.size := cell_lt k0
  change _ = some (Value.int .u8 (gK l : Int)) at k0
  change _ = some (Value.int .u8 (gN l : Int)) at k1
  change _ = some (Value.int .u8 (gH l : Int)) at k2
  have q0 : gK l < 256 := HBT.out.1 0
  have q1 : gN l < 256 := HBT.out.1 1
  have q2 : gH l < 256 := HBT.out.1 2
  have w0' : IntKind.i64.wrap (gK l : Int) = (gK l : Int) := IntWalk.i64_in _ (by omega)
  have w1' : IntKind.i64.wrap (gN l : Int) = (gN l : Int) := IntWalk.i64_in _ (by omega)
  have w2' : IntKind.i64.wrap (gH l : Int) = (gH l : Int) := IntWalk.i64_in _ (by omega)
  have s0 := fun (W' : World) (h : Ext w1.drew W') => (h.cell (p := ⟨b, o, none⟩) hbl).trans k0
  have s1 := fun (W' : World) (h : Ext w1.drew W') => (h.cell (p := ⟨b, o + 1, none⟩) hbl).trans k1
  have s2 := fun (W' : World) (h : Ext w1.drew W') => (h.cell (p := ⟨b, o + 2, none⟩) hbl).trans k2
  clear hb hbt1 hcl HX HE HS HL HZ k0 k1 k2
  go_wp2_with fail
  have n0 : 0 < n := by omega
  have n1 : (1 : Int) < (n : Int) := by omega
  have n2 : (2 : Int) < (n : Int) := by omega
  have c7 : (7 : Int) ≤ (c : Int) := by omega
  have c9 : (9 : Int) ≤ (c : Int) := by omega
  have n11 : (11 : Int) ≤ (n : Int) := by omega
  have hnc : (n : Int) ≤ (c : Int) := by omega
  refine wp_region_pt Ext later_ext (PT.steps [0, 1, 2, 3, 4, 5, 6, 7, 8, 9, 10, 11, 12, 13, 15, 16, 19, 20] (.rest 7 (doneL 25 [0, 1, 2, 3, 4, 5, 6, 7, 8, 9, 10, 11, 12, 13, 15, 16, 19, 20]))) (by kernel_rfl) (by kernel_rfl) (fun _ d _ _ _ h => by cases d <;> exact h) ?_
  unfold PT.steps
  iterate 18 (refine pt_take (v := ?_) rfl (by kernel_rfl) ?_ ?_; rotate_left; (focus (intro w' hw'; try go_simp; try with_reducible rfl)); simp only [Act.put, List.setIfInBounds_toArray, List.set_cons_zero, List.set_cons_succ])
  clear s0 s1 s2 n0 n1 n2 c7 c9 n11 hnc
  have HW : Hid (∀ w : World, Ext w1.drew w → Below W.heap.size W w) := Lib.hid fun w hw => HE1.out.trans (((Below.refl W.heap.size w1).drew).trans (hw.mono HE1.out.size))
  have hgs : gS l < 65536 := leNat_take_lt (l.drop 7) 2 (fun i => by rw [List.getD_eq_getElem?_getD, List.getElem?_drop, ← List.getD_eq_getElem?_getD]; exact HBT.out.1 _)
  have hgw : IntKind.u16.wrap (gS l : Int) = (gS l : Int) := by rw [IntKind.wrap_u16]; omega
  have HLD : Hid ((l.drop 11).length = n - 11) := Lib.hid (by rw [List.length_drop, HLN.out])
  refine pt_mid (R' := Ext) (fun _ _ h => h) later_ext later_ext (GetP l W) (.turn 24 .done) (ds := [(14, some 32), (17, some 35), (18, some 36), (21, some 39), (22, some 40), (23, some 4)]) (by kernel_rfl) (fun _ d _ _ _ h => by cases d <;> exact h) rfl (by kernel_rfl) (by kernel_rfl) (fun i v w w' h hp => getP_later l W i v w w' h hp) ?_ ?_
  · refine ⟨?_, ?_, ?_, ?_, ?_, ?_, trivial⟩
    · refine inv_call rfl (fun x w hw hp => ?_) rfl
      simp only [fill, Act.put, List.setIfInBounds_toArray, List.set_cons_zero, List.set_cons_succ]
      refine ⟨by kernel_rfl, _, _, by go_simp; exact ⟨rfl, rfl⟩, ?_⟩
      refine (number_any _ _ 4 _ w (sub_bts (bts_below HBT.out (HW.out w hw)) 3 4 (by rw [HLN.out]; omega) (by decide)) (by rw [List.length_take, List.length_drop, HLN.out]; omega) (by decide) (by decide)).mono ?_
      rintro e w2 ⟨rfl, hb⟩
      exact ⟨_, rfl, hb, rfl⟩
    · refine inv_call rfl (fun x w hw hp => ?_) rfl
      simp only [fill, Act.put, List.setIfInBounds_toArray, List.set_cons_zero, List.set_cons_succ]
      refine ⟨by kernel_rfl, _, _, by go_simp; exact ⟨rfl, rfl⟩, ?_⟩
      refine (number_any _ _ 2 _ w (sub_bts (bts_below HBT.out (HW.out w hw)) 7 2 (by rw [HLN.out]; omega) (by decide)) (by rw [List.length_take, List.length_drop, HLN.out]; omega) (by decide) (by decide)).mono ?_
      rintro e w2 ⟨rfl, hb⟩
      exact ⟨_, rfl, hb, rfl⟩
    · refine inv_pure later_ext rfl (fun x w hw hp => ?_) rfl
      have h17 : x 17 = .int .i64 (gS l : Int) := hp 17 (by kernel_rfl)
      simp only [fill, Act.put, List.setIfInBounds_toArray, List.set_cons_zero, List.set_cons_succ]
      refine ⟨by kernel_rfl, _, by go_simp, rfl⟩
    · refine inv_call rfl (fun x w hw hp => ?_) rfl
      simp only [fill, Act.put, List.setIfInBounds_toArray, List.set_cons_zero, List.set_cons_succ]
      refine ⟨by kernel_rfl, _, _, by go_simp; exact ⟨rfl, rfl⟩, ?_⟩
      have hcl := clone_any A3 (l.drop 11) (c - 11) w (by rw [HLD.out]; omega) (bts_below HB3.out (HW.out w hw))
      rw [HLD.out] at hcl
      refine hcl.mono ?_
      rintro e w2 ⟨v, rfl, ho, hb⟩
      obtain ⟨A1, c1, rfl, hB1, hlt⟩ := bts_own ho HB3.out.1 rfl
      refine ⟨_, rfl, hb, A1, c1, by rw [HLD.out, HLN.out], hB1, fun a ea => ⟨?_, hlt a ea⟩⟩
      subst ea
      exact Nat.le_trans (HW.out w hw).size (ho.lt a.block rfl).1
    · refine inv_pure later_ext rfl (fun x w hw hp => ?_) rfl
      have h14 : x 14 = .int .i64 (gP l : Int) := hp 14 (by kernel_rfl)
      have h18 : x 18 = .int .u16 (gS l : Int) := hp 18 (by kernel_rfl)
      obtain ⟨A1, c1, e21, hB1, hr1⟩ : ∃ A c, x 21 = .slice A (l.length - 11) c ∧ Bts w A (l.drop 11) ∧ (∀ a, A = some a → W.heap.size ≤ a.block ∧ a.block < w.heap.size) := hp 21 (by kernel_rfl)
      simp only [fill, Act.put, List.setIfInBounds_toArray, List.set_cons_zero, List.set_cons_succ]
      refine ⟨by kernel_rfl, .agg #[.int .i64 (gK l : Int), .int .i64 (gP l : Int), .int .i64 (gN l : Int), .int .i64 (gH l : Int), .int .u16 (gS l : Int), .slice A1 (l.length - 11) c1], by go_simp, A1, c1, rfl, hB1, hr1⟩
    · refine inv_op rfl (fun x w hw hp => ?_) rfl
      simp only [fill, Act.put, List.setIfInBounds_toArray, List.set_cons_zero, List.set_cons_succ]
      refine ⟨by kernel_rfl, fun K hK => ?_⟩
      go_simp
      refine hK _ _ ((Ext.refl _).alloc (Nat.le_refl _) _) ?_
      exact ⟨w.heap.size, rfl, Nat.lt_of_lt_of_le HX1.out.lt hw.size, Blkf.new_at _ _ _ _ rfl⟩
  · intro x w5 hx hpr
    obtain ⟨A1, c1, e22, hB1, hr1⟩ : ∃ A c, x 22 = .agg #[.int .i64 (gK l : Int), .int .i64 (gP l : Int), .int .i64 (gN l : Int), .int .i64 (gH l : Int), .int .u16 (gS l : Int), .slice A (l.length - 11) c] ∧ Bts w5 A (l.drop 11) ∧ (∀ a, A = some a → W.heap.size ≤ a.block ∧ a.block < w5.heap.size) := hpr (22, some 40) (by simp)
    obtain ⟨g, e23, hg, hbg⟩ : ∃ g, x 23 = .pointer (some ⟨g, 0, none⟩) ∧ W.heap.size < g ∧ Blk w5 g 27 #[.int .i64 0, .int .i64 0, .int .i64 0, .int .i64 0, .int .u16 0, .slice none 0 0] := hpr (23, some 4) (by simp)
    simp only [fill, Act.put, List.setIfInBounds_toArray, List.set_cons_zero, List.set_cons_succ]
    rw [e22, e23]
    rw [HLN.out]
    clear e22 e23 hpr
    have HB1 := Lib.hid hB1
    have HBG := Lib.hid hbg
    have B5 := Lib.hid (HW.out w5 hx)
    have X5 := Lib.hid ((HX1.out.drew).below hx HX1.out.lt)
    have HGW := Lib.hid hg
    have gl := hbg.lt
    have m0 := hbg.cell 0
    have m1 := hbg.cell 1
    have m2 := hbg.cell 2
    have m3 := hbg.cell 3
    have m4 := hbg.cell 4
    have m5 := hbg.cell 5
    simp only [List.getElem?_toArray, List.getElem?_cons_zero, List.getElem?_cons_succ] at m0 m1 m2 m3 m4 m5
    have z0 := Blk.frozen hbg 0
    have z1 := Blk.frozen hbg 1
    have z2 := Blk.frozen hbg 2
    have z3 := Blk.frozen hbg 3
    have z4 := Blk.frozen hbg 4
    have z5 := Blk.frozen hbg 5
    clear hB1 hbg hx hr1
    generalize x 14 = y14
    generalize x 17 = y17
    generalize x 18 = y18
    generalize x 21 = y21
    clear x
    refine pt_turn ?_
    refine pt_last rfl (by kernel_rfl) (by kernel_rfl) (fun K hK => ?_)
    go_simp
    refine hK _ _ ?_
    clear hK K m0 m1 m2 m3 m4 m5 z0 z1 z2 z3 z4 z5 gl
    refine pt_end ?_
    have G6 : Hid (Blk (set6 w5 g (.int .i64 (gK l : Int)) (.int .i64 (gP l : Int)) (.int .i64 (gN l : Int)) (.int .i64 (gH l : Int)) (.int .u16 (gS l : Int)) (.slice A1 (n - 11) c1)) g 27 _) := Lib.hid (set6_blk HBG.out _ _ _ _ _ _)
    have K6 : Hid (Keeps (fun x => x = g) w5 (set6 w5 g (.int .i64 (gK l : Int)) (.int .i64 (gP l : Int)) (.int .i64 (gN l : Int)) (.int .i64 (gH l : Int)) (.int .u16 (gS l : Int)) (.slice A1 (n - 11) c1))) := Lib.hid (set6_keeps (Keeps.refl (fun x => x = g) w5) (.inl rfl) _ _ _ _ _ _)
    have B6 := Lib.hid (bts_msg HB1.out (fun x => by simp) HBG.out K6.out)
    have X6 := Lib.hid (K6.out.blk X5.out (by have := HGW.out; omega))
    have E6 := Lib.hid (B5.out.trans (K6.out.below (B := W.heap.size) (fun i e => by have := HGW.out; omega) B5.out.size))
    unfold set6 at G6 K6 B6 X6 E6
    generalize (((((w5.setCell ⟨g, 0, none⟩ (.int .i64 (gK l : Int))).setCell ⟨g, 1, none⟩ (.int .i64 (gP l : Int))).setCell ⟨g, 2, none⟩ (.int .i64 (gN l : Int))).setCell ⟨g, 3, none⟩ (.int .i64 (gH l : Int))).setCell ⟨g, 4, none⟩ (.int .u16 (gS l : Int))).setCell ⟨g, 5, none⟩ (.slice A1 (n - 11) c1) = w6 at *
    clear HB1 HBG X5 B5 K6
    have gl := G6.out.lt
    have m0 := G6.out.cell 0
    have m1 := G6.out.cell 1
    have m2 := G6.out.cell 2
    have m3 := G6.out.cell 3
    have m4 := G6.out.cell 4
    have m5 := G6.out.cell 5
    simp only [List.getElem?_toArray, List.getElem?_cons_zero, List.getElem?_cons_succ] at m0 m1 m2 m3 m4 m5
    go_wp2_with fail
    clear m0 m1 m2 m3 m4 m5 gl
    refine (mright_any (gK l : Int) (gP l : Int) (gN l : Int) (gH l : Int) (gS l) A1 (l.drop 11) (n - 11) c1 w6 B6.out HLD.out (by omega)).mono ?_
    rintro e w7 ⟨rfl, hb7⟩
    have G7 := Lib.hid (G6.out.below hb7 G6.out.lt)
    have X7 := Lib.hid (X6.out.below hb7 X6.out.lt)
    have B7 := Lib.hid (bts_below B6.out hb7)
    have E7 := Lib.hid (E6.out.trans (hb7.mono E6.out.size))
    have hgr : W.heap.size ≠ g := by have := HGW.out; omega
    have gl := G7.out.lt
    have xl := X7.out.lt
    have m0 := G7.out.cell 0
    have m1 := G7.out.cell 1
    have m2 := G7.out.cell 2
    have m3 := G7.out.cell 3
    have m4 := G7.out.cell 4
    have m5 := G7.out.cell 5
    simp only [List.getElem?_toArray, List.getElem?_cons_zero, List.getElem?_cons_succ] at m0 m1 m2 m3 m4 m5
    have u0 := X7.out.cell 0
    have u1 := X7.out.cell 1
    have u2 := X7.out.cell 2
    have u3 := X7.out.cell 3
    have u4 := X7.out.cell 4
    have u5 := X7.out.cell 5
    simp only [List.getElem?_toArray, List.getElem?_cons_zero, List.getElem?_cons_succ] at u0 u1 u2 u3 u4 u5
    have z0 := Blk.frozen X7.out 0
    have z1 := Blk.frozen X7.out 1
    have z2 := Blk.frozen X7.out 2
    have z3 := Blk.frozen X7.out 3
    have z4 := Blk.frozen X7.out 4
    have z5 := Blk.frozen X7.out 5
    have HRT : Hid (rightM (gK l : Int) (gP l : Int) (gN l : Int) (gH l : Int) (gS l) (l.drop 11) = rightL l) := Lib.hid rfl
    rw [HRT.out]
    clear hb7 G6 X6 B6 E6
    cases hr : rightL l with
    | false =>
      have HRL := Lib.hid hr
      clear hr
      go_wp2_with fail
      refine bodyPost_ret (v := .tuple #[zeroM, .bool false]) (res_cell_slot Tryd.results8 _ _ W.heap.size 27 _ _ rfl rfl (set6_blk X7.out (.int .i64 0) (.int .i64 0) (.int .i64 0) (.int .i64 0) (.int .u16 0) (.slice none 0 0)) (by kernel_rfl)) rfl ?_
      unfold GetM
      rw [HRL.out, if_neg (by decide)]
      exact ⟨E7.out.trans ((set6_keeps (Keeps.refl (fun x => x = W.heap.size) w7) (.inl rfl) _ _ _ _ _ _).below (fun i e => by omega) E7.out.size), rfl⟩
    | true =>
      have HRL := Lib.hid hr
      clear hr
      go_wp2_with fail
      refine bodyPost_ret (v := .tuple #[msV (gK l : Int) (gP l : Int) (gN l : Int) (gH l : Int) (gS l) A1 (n - 11) c1, .bool true]) (res_cell_slot Tryd.results8 _ _ W.heap.size 27 _ _ rfl rfl (set6_blk X7.out (.int .i64 (gK l : Int)) (.int .i64 (gP l : Int)) (.int .i64 (gN l : Int)) (.int .i64 (gH l : Int)) (.int .u16 (gS l : Int)) (.slice A1 (n - 11) c1)) (by kernel_rfl)) rfl ?_
      unfold GetM
      rw [HRL.out, if_pos rfl]
      exact ⟨E7.out.trans ((set6_keeps (Keeps.refl (fun x => x = W.heap.size) w7) (.inl rfl) _ _ _ _ _ _).below (fun i e => by omega) E7.out.size), A1, c1, rfl, bts_msg B7.out (fun x => by simp) X7.out (set6_keeps (Keeps.refl (fun x => x = W.heap.size) w7) (.inl rfl) _ _ _ _ _ _)⟩
end Go.Proofs.YtkkgigdgbiklmaaDoor
