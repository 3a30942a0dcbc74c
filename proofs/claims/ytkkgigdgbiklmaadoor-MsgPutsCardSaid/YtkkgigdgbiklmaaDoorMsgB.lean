/- Put: a row whose first eleven cells are known. -/
import Derived.Test.YtkkgigdgbiklmaaDoorMsgA
import Derived.Test.YtkkgigdgbiklmaaDoorByte
import Derived.Test.YtkkgigdgbiklmaaDoorCheckC
import Derived.Laws.IdiomCopy
namespace Go.Proofs.YtkkgigdgbiklmaaDoor
open Go.RowKit

/-- A plain row of bytes of N cells whose first eleven are f's. -/
def Cur (w : World) (g N : Nat) (f : Nat → Nat) : Prop := ∃ cur, Blk w g 5 cur ∧ cur.size = N ∧ ∀ j, j < 11 → cur[j]? = some (bv (f j))
theorem Cur.set {w : World} {g N : Nat} {f : Nat → Nat} (h : Cur w g N f) (i v : Nat) (hi : i < N) : Cur (w.setCell ⟨g, i, none⟩ (bv v)) g N (fun j => if j = i then v else f j) := by
  obtain ⟨cur, h1, h2, h3⟩ := h
  refine ⟨_, Blkf.set_ h1 i (bv v), by simp [h2], fun j hj => ?_⟩
  rw [Array.getElem?_setIfInBounds]
  by_cases e : i = j
  · subst e
    rw [if_pos rfl, if_pos (by omega)]
    show _ = some (bv (if i = i then v else f i))
    rw [if_pos rfl]
  · rw [if_neg e]
    show _ = some (bv (if j = i then v else f j))
    rw [if_neg (fun x : j = i => e x.symm)]
    exact h3 j hj
theorem Cur.congr {w : World} {g N : Nat} {f f' : Nat → Nat} (h : Cur w g N f) (he : ∀ j, j < 11 → f j = f' j) : Cur w g N f' := by
  obtain ⟨cur, h1, h2, h3⟩ := h
  exact ⟨cur, h1, h2, fun j hj => by rw [h3 j hj, he j hj]⟩
theorem Cur.cell {w : World} {g N : Nat} {f : Nat → Nat} (h : Cur w g N f) (j : Nat) (hj : j < 11) : w.cell? ⟨g, j, none⟩ = some (bv (f j)) := by
  obtain ⟨cur, h1, h2, h3⟩ := h
  rw [h1.cell]
  exact h3 j hj
theorem Cur.frozen {w : World} {g N : Nat} {f : Nat → Nat} (h : Cur w g N f) (i : Nat) : w.frozen? ⟨g, i, none⟩ = false := by
  obtain ⟨cur, h1, _⟩ := h
  exact Blk.frozen h1 i
theorem Cur.lt {w : World} {g N : Nat} {f : Nat → Nat} (h : Cur w g N f) : g < w.heap.size := by
  obtain ⟨cur, h1, _⟩ := h
  exact h1.lt
theorem Cur.keeps {w w' : World} {g N : Nat} {f : Nat → Nat} {F : Nat → Prop} (h : Cur w g N f) (k : Keeps F w w') (hg : ¬ F g) : Cur w' g N f := by
  obtain ⟨cur, h1, h2, h3⟩ := h
  exact ⟨cur, k.blk h1 hg, h2, h3⟩
theorem Cur.below {w w' : World} {g N : Nat} {f : Nat → Nat} (h : Cur w g N f) (hb : Below w.heap.size w w') : Cur w' g N f := h.keeps (F := fun _ => False) (Keeps.of_below hb) (fun h => h)
theorem Cur.own {w : World} {g N base : Nat} {f : Nat → Nat} (h : Cur w g N f) (hN : 11 ≤ N) (hb : base ≤ g) (hm : N ≤ maxLen) : w.ownsRow base 5 1 (.slice (some ⟨g, 0, none⟩) 11 N) 11 (((List.range 11).map f).map bv) := by
  obtain ⟨cur, h1, h2, h3⟩ := h
  refine ⟨by simp, .inr ⟨g, N, cur, rfl, hb, h1, hN, hm, by omega, ?_⟩⟩
  apply List.ext_getElem?
  intro i
  by_cases hi : i < 11
  · rw [List.getElem?_take_of_lt (by omega), Array.getElem?_toList, h3 i hi]
    rw [List.getElem?_map, List.getElem?_map, List.getElem?_range hi]
    rfl
  · rw [List.getElem?_eq_none (by simp; omega), List.getElem?_eq_none (by simp; omega)]
set_option maxHeartbeats 1000000 in
theorem put4 (g N v : Nat) (f : Nat → Nat) (w : World) (h : Cur w g N f) (hN : 11 ≤ N) (hv : v < 18446744073709551616) :
    Calls Tryd.prog 21 #[.slice (some ⟨g, 0, none⟩) 11 N, .int .i64 3, .int .i64 4, .int .u64 (v : Int)] w fun e w' => e = .returned (.bool true) ∧ Cur w' g N (fun j => if 3 ≤ j ∧ j < 7 then byteOf v (j - 3) else f j) ∧ Keeps (fun b => b = g) w w' := by
  have H := Lib.hid h
  have HN := Lib.hid hN
  have hlt := h.lt
  clear h hN
  go_enter Tryd.func21, Tryd.ntmps21
  go_wp2_with (go_at_call 34; refine (there_any _ _ _ _ _ _ (by omega)).mono ?_; rintro e w' ⟨rfl, rfl⟩; rw [show thereB ((11 : Nat) : Int) 3 4 = true from rfl])
  go_loopw [16] (fun i wr => ∃ j : Nat, j ≤ 4 ∧ i = .int .i64 j ∧ Cur wr g N (fun i => if 3 ≤ i ∧ i < 3 + j then byteOf v (i - 3) else f i) ∧ Keeps (fun b => b = g) w wr) (fun i _ => (4 - (intOf i)).toNat)
  case atStart => exact ⟨0, by omega, rfl, H.out.congr (fun j hj => by rw [if_neg (by omega)]), Keeps.refl _ _⟩
  case round =>
    obtain ⟨j, hj, rfl, hP, hk⟩ := hrel
    have HP := Lib.hid hP
    have HK := Lib.hid hk
    clear hP hk
    by_cases h0 : j < 4
    · have hcell := HP.out.cell (3 + j) (by omega)
      have hfz := HP.out.frozen (3 + j)
      have hg := HP.out.lt
      unfold bv at hcell
      have hjI : (j : Int) < 4 := by omega
      go_wp2
      rw [byte_walk]
      refine ⟨⟨j + 1, by omega, by go_num, (HP.out.set (3 + j) (byteOf v j) (by have := HN.out; omega)).congr (fun i hi => ?_), HK.out.setCell (p := ⟨g, 3 + j, none⟩) (.inl rfl) _⟩, by simp [intOf]; omega⟩
      by_cases e : i = 3 + j
      · subst e
        rw [if_pos rfl, if_pos (by omega), show 3 + j - 3 = j by omega]
      · rw [if_neg e]
        by_cases e2 : 3 ≤ i ∧ i < 3 + j
        · rw [if_pos e2, if_pos (by omega)]
        · rw [if_neg e2, if_neg (by omega)]
    · obtain rfl : j = 4 := by omega
      go_wp2
      go_ret
      exact ⟨rfl, HP.out.congr (fun i hi => rfl), HK.out⟩
theorem bytes2 (v : Nat) (W : World) (hv : v < 18446744073709551616) : Calls Tryd.prog 22 #[.int .u64 (v : Int), .int .i64 2] W fun e w' => ∃ b o c, e = .returned (.slice (some ⟨b, o, none⟩) 2 c) ∧ (∀ (j : Nat) (x : Value), [bv (byteOf v 0), bv (byteOf v 1)][j]? = some x → w'.cell? ((⟨b, o, none⟩ : Addr).add j) = some x) ∧ Below W.heap.size W w' := by
  refine (bytes_yes v 2 W hv rfl).mono ?_
  rintro e w' ⟨A, c, rfl, hb, _, hbl⟩
  obtain ⟨b, o, rfl, hcl⟩ := hb.2 (by show 0 < 2; omega)
  refine ⟨b, o, c, rfl, fun j x hj => ?_, hbl⟩
  match j, hj with
  | 0, hj => rw [← hj]; exact hcl 0 (by show 0 < 2; omega)
  | 1, hj => rw [← hj]; exact hcl 1 (by show 1 < 2; omega)
  | j + 2, hj => simp at hj
/-- Two bytes copied into the row. -/
theorem copy2 {w : World} {g N o x y b2 o2 c2 dl dc : Nat} {f : Nat → Nat} (C : Cur w g N f) (ho : o + 1 < 11) (hd : 2 ≤ dl) (hs : ∀ (j : Nat) (v : Value), [bv x, bv y][j]? = some v → w.cell? ((⟨b2, o2, none⟩ : Addr).add j) = some v) (ty : TypeId) :
    (Builtin.copy_ #[22, 22] ty #[.slice (some ⟨g, o, none⟩) dl dc, .slice (some ⟨b2, o2, none⟩) 2 c2]).run Tryd.prog w = .ok (.int .i64 2) ((w.setCell ⟨g, o, none⟩ (bv x)).setCell ⟨g, o + 1, none⟩ (bv y)) := by
  obtain ⟨i0, hi0, hz0, hz1, hz2⟩ := info_parts info5
  exact run_copy_cells (P := Tryd.prog) w 22 22 ty 5 g o dl dc ⟨b2, o2, none⟩ 2 c2 [bv x, bv y] Tryd.underlying22 (by rw [hi0]; exact congrArg some hz1) (by show 2 = min 2 dl; omega) hs
    (fun j hj => by
      have hj2 : j < 2 := hj
      rw [C.cell (o + j) (by omega)]; rfl) (fun j hj => C.frozen _) (fun v hv => by simp at hv; rcases hv with rfl | rfl <;> rfl)
/-- The bytes of a message. -/
def putH (k p nd h s n : Nat) : List Nat := [k, nd, h] ++ bytesOf p 4 ++ bytesOf s 2 ++ bytesOf n 2
def putL (k p nd h s : Nat) (D : List Nat) : List Nat := putH k p nd h s D.length ++ D
theorem mput_no (k p nd h : Int) (s : Nat) (A : Option Addr) (D : List Nat) (m c : Nat) (W : World) (hB : Bts W A D) (hm : D.length = m) (hm2 : m ≤ 9223372036854775807) (hr : rightM k p nd h s D = false) :
    Calls Tryd.prog 11 #[msV k p nd h s A m c] W fun e w' => e = .returned (.tuple #[.slice none 0 0, .int .i64 2]) ∧ Below W.heap.size W w' := by
  have HE : Hid (Below W.heap.size W (W.alloc (.cells #[.int .i64 k, .int .i64 p, .int .i64 nd, .int .i64 h, .int .u16 (s : Int), .slice A m c] 27))) := Lib.hid ((Below.refl _ W).alloc (Nat.le_refl _) _)
  have HBT := Lib.hid hB
  have HM := Lib.hid hm
  have HM2 := Lib.hid hm2
  have HR := Lib.hid hr
  unfold msV
  clear hB hm hm2 hr
  go_enter Tryd.func11, Tryd.ntmps11
  go_wp2_with fail
  refine (mright_any k p nd h s A D m c _ (bts_below HBT.out HE.out) HM.out HM2.out).mono ?_
  rintro e w' ⟨rfl, hb⟩
  rw [HR.out]
  have HB2 := Lib.hid (HE.out.trans (hb.mono HE.out.size))
  clear hb
  go_wp2_with fail
  refine bodyPost_ret (v := .tuple #[.slice none 0 0, .int .i64 2]) (by simp [results, Tryd.results11, go_sem]) rfl ?_
  exact ⟨rfl, HB2.out⟩
set_option maxHeartbeats 4000000 in
theorem mput_yes (k p nd h s : Nat) (A : Option Addr) (D : List Nat) (m c : Nat) (W : World) (hB : Bts W A D) (hm : D.length = m) (hr : rightM (k : Int) (p : Int) (nd : Int) (h : Int) s D = true) (hs : s < 65536) :
    Calls Tryd.prog 11 #[msV k p nd h s A m c] W fun e w' => ∃ v, e = .returned (.tuple #[v, .int .i64 0]) ∧ w'.ownsRow W.heap.size 5 1 v (putL k p nd h s D).length ((putL k p nd h s D).map bv) ∧ Below W.heap.size W w' := by
  obtain ⟨i0, hi0, hz0, hz1, hz2⟩ := info_parts info5
  have HE : Hid (Below W.heap.size W (W.alloc (.cells #[.int .i64 (k : Int), .int .i64 (p : Int), .int .i64 (nd : Int), .int .i64 (h : Int), .int .u16 (s : Int), .slice A m c] 27))) := Lib.hid ((Below.refl _ W).alloc (Nat.le_refl _) _)
  have HX : Hid (Blk (W.alloc (.cells #[.int .i64 (k : Int), .int .i64 (p : Int), .int .i64 (nd : Int), .int .i64 (h : Int), .int .u16 (s : Int), .slice A m c] 27)) W.heap.size 27 #[.int .i64 (k : Int), .int .i64 (p : Int), .int .i64 (nd : Int), .int .i64 (h : Int), .int .u16 (s : Int), .slice A m c]) := Lib.hid (Blkf.new_at _ _ _ _ rfl)
  have hb0 : k ≤ 6 ∧ p < 65536 ∧ nd < 16 ∧ h ≤ 255 ∧ D.length ≤ 4096 := by
    unfold rightM headB dataB at hr
    simp only [Bool.and_eq_true, decide_eq_true_eq] at hr
    refine ⟨by omega, by omega, by omega, by omega, ?_⟩
    have h2 := hr.2
    split at h2
    · simp only [Bool.and_eq_true, decide_eq_true_eq] at h2
      exact h2.1
    · have : D.length = 0 := by simpa using h2
      omega
  obtain ⟨hk, hp, hnd, hh, hD⟩ := hb0
  rw [hm] at hD
  have HBT := Lib.hid hB
  have HM := Lib.hid hm
  have HR := Lib.hid hr
  have k8 : IntKind.u8.wrap (k : Int) = (k : Int) := by rw [IntKind.wrap_u8]; omega
  have n8 : IntKind.u8.wrap (nd : Int) = (nd : Int) := by rw [IntKind.wrap_u8]; omega
  have h8 : IntKind.u8.wrap (h : Int) = (h : Int) := by rw [IntKind.wrap_u8]; omega
  have hmk : ∀ W', (Instr.makeSlice 22 (.int .i64 11) (.int .i64 (11 + (m : Int)))).run Tryd.prog W' = .ok (.slice (some ⟨W'.heap.size, 0, none⟩) 11 (11 + m)) (W'.alloc (.cells (madeCells (Value.int IntKind.u8 0).cells ((11 + m) * 1)) 5)) := fun W' => by
    have h := run_make (P := Tryd.prog) W' 22 5 i0 _ Tryd.underlying22 hi0 hz0 .i64 .i64 11 (11 + (m : Int)) (by omega) (by omega) (by rw [hz2]; omega) (by omega)
    rw [hz1, show (11 + (m : Int)).toNat = 11 + m by omega] at h
    exact h
  unfold msV
  clear hB hm hr
  go_enter Tryd.func11, Tryd.ntmps11
  go_wp2_with fail
  refine (mright_any k p nd h s A D m c _ (bts_below HBT.out HE.out) HM.out (by omega)).mono ?_
  rintro e w1 ⟨rfl, hb⟩
  rw [HR.out]
  have HX1 := Lib.hid (HX.out.below hb HX.out.lt)
  have HB2 := Lib.hid (HE.out.trans (hb.mono HE.out.size))
  have x0 := HX1.out.cell 0
  have x1 := HX1.out.cell 1
  have x2 := HX1.out.cell 2
  have x3 := HX1.out.cell 3
  have x4 := HX1.out.cell 4
  have x5 := HX1.out.cell 5
  have xl := HX1.out.lt
  simp only [List.getElem?_toArray, List.getElem?_cons_zero, List.getElem?_cons_succ] at x0 x1 x2 x3 x4 x5
  clear hb
  go_wp2_with fail
  clear x0 x1 x2 x3 x4 x5 hmk
  obtain ⟨mb, hmb⟩ : ∃ mb, mb = W.heap.size := ⟨_, rfl⟩
  obtain ⟨g, hg⟩ : ∃ g, g = w1.heap.size := ⟨_, rfl⟩
  have hmbg : mb < g := by omega
  have hne : mb ≠ g := by omega
  have HBG : Hid (W.heap.size ≤ g) := Lib.hid (by omega)
  have C3 : Hid (Cur (w1.alloc (.cells (madeCells #[Value.int IntKind.u8 0] (11 + m)) 5)) g (11 + m) (fun _ => 0)) := Lib.hid (by
    refine ⟨madeCells #[Value.int IntKind.u8 0] (11 + m), by rw [hg]; exact Blkf.new_at _ _ _ _ rfl, by simp [madeCells], fun j hj => ?_⟩
    exact made_byte _ j (by omega))
  have X3 := Lib.hid (HX1.out.below ((Below.refl _ w1).alloc (Nat.le_refl _) (.cells (madeCells #[Value.int IntKind.u8 0] (11 + m)) 5)) HX1.out.lt)
  have B3 := Lib.hid (HB2.out.alloc HB2.out.size (.cells (madeCells #[Value.int IntKind.u8 0] (11 + m)) 5))
  rw [← hmb] at X3 ⊢
  rw [← hg]
  clear hmb hg xl HX1 HB2 HX HE
  generalize w1.alloc (.cells (madeCells #[Value.int IntKind.u8 0] (11 + m)) 5) = w3 at *
  have hx := X3.out.drew
  have s0 := fun (W' : World) (h : W'.heap[mb]? = w3.drew.heap[mb]?) => (World.cell?_of_block (a := ⟨mb, 0, none⟩) h).trans (hx.cell 0)
  have s2 := fun (W' : World) (h : W'.heap[mb]? = w3.drew.heap[mb]?) => (World.cell?_of_block (a := ⟨mb, 2, none⟩) h).trans (hx.cell 2)
  have s3 := fun (W' : World) (h : W'.heap[mb]? = w3.drew.heap[mb]?) => (World.cell?_of_block (a := ⟨mb, 3, none⟩) h).trans (hx.cell 3)
  simp only [List.getElem?_toArray, List.getElem?_cons_zero, List.getElem?_cons_succ] at s0 s2 s3
  clear hx
  refine wp_region_plan_by (fun u u' => u'.heap[mb]? = u.heap[mb]?) ⟨fun _ => rfl, fun h k => k.trans h⟩ [(0, false), (1, false), (2, false), (3, false), (4, false), (5, false), (6, false), (7, false), (8, false), (9, false), (10, false), (11, false), (12, false), (13, true), (14, false), (15, true), (16, false), (17, true)] (by kernel_rfl) (by kernel_rfl) (fun _ d _ _ _ h => by cases d <;> exact h) ?_
  iterate 13 (refine plan_take (v := ?_) rfl (by kernel_rfl) ?_ ?_; rotate_left; (focus (intro w' hw'; try go_simp; try with_reducible rfl)); simp only [Act.put, List.setIfInBounds_toArray, List.set_cons_zero, List.set_cons_succ])
  clear s0 s2 s3
  have C4 : Hid (Cur w3.drew g (11 + m) (fun _ => 0)) := Lib.hid (C3.out.below (Below.refl _ _).drew)
  have c0 := C4.out.cell 0 (by omega)
  have f0 := C4.out.frozen 0
  have gl := C4.out.lt
  refine plan_turn rfl (by kernel_rfl) (fun K hK => ?_)
  go_simp
  refine hK _ _ ⟨Below.heap_setCell w3 ⟨g, 0, none⟩ _ mb hne, ?_⟩
  clear hK K c0 f0
  have C5 : Hid (Cur (w3.setCell ⟨g, 0, none⟩ (bv k)).drew g (11 + m) _) := Lib.hid ((C3.out.set 0 k (by omega)).below (Below.refl _ _).drew)
  have K5 : Hid (Keeps (fun b => b = g) w3 (w3.setCell ⟨g, 0, none⟩ (bv k)).drew) := Lib.hid (((Keeps.refl (fun b => b = g) w3).setCell (p := ⟨g, 0, none⟩) (.inl rfl) _).drew)
  unfold bv at C5 K5
  generalize (w3.setCell ⟨g, 0, none⟩ (.int .u8 (k : Int))).drew = w5 at *
  iterate 1 (refine plan_take (v := ?_) rfl (by kernel_rfl) ?_ ?_; rotate_left; (focus (intro w' hw'; try go_simp; try with_reducible rfl)); simp only [Act.put, List.setIfInBounds_toArray, List.set_cons_zero, List.set_cons_succ])
  have c0 := C5.out.cell 1 (by omega)
  have f0 := C5.out.frozen 1
  have gl := C5.out.lt
  refine plan_turn rfl (by kernel_rfl) (fun K hK => ?_)
  go_simp
  refine hK _ _ ⟨Below.heap_setCell w5 ⟨g, 1, none⟩ _ mb hne, ?_⟩
  clear hK K c0 f0
  have C6 := Lib.hid (C5.out.set 1 nd (by omega))
  have K6 : Hid (Keeps (fun b => b = g) w3 (w5.setCell ⟨g, 1, none⟩ (bv nd))) := Lib.hid (K5.out.setCell (p := ⟨g, 1, none⟩) (.inl rfl) _)
  unfold bv at C6 K6
  generalize w5.setCell ⟨g, 1, none⟩ (.int .u8 (nd : Int)) = w6 at *
  iterate 1 (refine plan_take (v := ?_) rfl (by kernel_rfl) ?_ ?_; rotate_left; (focus (intro w' hw'; try go_simp; try with_reducible rfl)); simp only [Act.put, List.setIfInBounds_toArray, List.set_cons_zero, List.set_cons_succ])
  have c0 := C6.out.cell 2 (by omega)
  have f0 := C6.out.frozen 2
  have gl := C6.out.lt
  refine plan_turn rfl (by kernel_rfl) (fun K hK => ?_)
  go_simp
  refine hK _ _ ⟨Below.heap_setCell w6 ⟨g, 2, none⟩ _ mb hne, ?_⟩
  clear hK K c0 f0
  have C7 := Lib.hid (C6.out.set 2 h (by omega))
  have K7 : Hid (Keeps (fun b => b = g) w3 (w6.setCell ⟨g, 2, none⟩ (bv h))) := Lib.hid (K6.out.setCell (p := ⟨g, 2, none⟩) (.inl rfl) _)
  unfold bv at C7 K7
  generalize w6.setCell ⟨g, 2, none⟩ (.int .u8 (h : Int)) = w7 at *
  clear C3 C4 C5 C6 K5 K6
  refine plan_end ?_
  have X7 := Lib.hid (K7.out.blk X3.out (by show mb ≠ g; omega))
  have x1 := X7.out.cell 1
  simp only [List.getElem?_toArray, List.getElem?_cons_zero, List.getElem?_cons_succ] at x1
  have p64 : IntKind.u64.wrap (p : Int) = (p : Int) := by rw [IntKind.wrap_u64]; omega
  have xl := X7.out.lt
  go_wp2_with fail
  clear x1 xl p64
  refine (put4 g (11 + m) p _ w7 C7.out (by omega) (by omega)).mono ?_
  rintro e w8 ⟨rfl, hc8, hk8⟩
  have C8 := Lib.hid hc8
  have K8 := Lib.hid (K7.out.same hk8)
  clear hc8 hk8 C7 K7 X7
  have i11 : 11 ≤ 11 + m := by omega
  have i7' : ¬ 11 + m = 7 := by omega
  go_wp2_with fail
  have X8 := Lib.hid (K8.out.blk X3.out hne)
  have hx := X8.out.drew
  have s4 := fun (W' : World) (h : W'.heap[mb]? = w8.drew.heap[mb]?) => (World.cell?_of_block (a := ⟨mb, 4, none⟩) h).trans (hx.cell 4)
  simp only [List.getElem?_toArray, List.getElem?_cons_zero, List.getElem?_cons_succ] at s4
  have s64 : IntKind.u64.wrap (s : Int) = (s : Int) := by rw [IntKind.wrap_u64]; omega
  refine wp_region_plan_by (fun u u' => u'.heap[mb]? = u.heap[mb]?) ⟨fun _ => rfl, fun h k => k.trans h⟩ [(0, false), (1, false), (2, false), (3, false), (4, false), (5, true), (6, true)] (by kernel_rfl) (by kernel_rfl) (fun _ d _ _ _ h => by cases d <;> exact h) ?_
  iterate 1 (refine plan_take (v := ?_) rfl (by kernel_rfl) ?_ ?_; rotate_left; (focus (intro w' hw'; try go_simp; try with_reducible rfl)); simp only [Act.put, List.setIfInBounds_toArray, List.set_cons_zero, List.set_cons_succ])
  refine plan_take (v := .slice (some ⟨g, 7, none⟩) 4 (4 + m)) rfl (by kernel_rfl) ?_ ?_
  · intro w' hw'
    go_simp
    omega
  simp only [Act.put, List.setIfInBounds_toArray, List.set_cons_zero, List.set_cons_succ]
  iterate 3 (refine plan_take (v := ?_) rfl (by kernel_rfl) ?_ ?_; rotate_left; (focus (intro w' hw'; try go_simp; try with_reducible rfl)); simp only [Act.put, List.setIfInBounds_toArray, List.set_cons_zero, List.set_cons_succ])
  clear s4 s64 hx i7'
  refine plan_call rfl (by kernel_rfl) (by go_simp; exact ⟨rfl, rfl⟩) ?_
  refine (bytes2 s w8.drew (by omega)).mono ?_
  rintro e w9 ⟨b2, o2, c2, rfl, hcl, hbl⟩
  refine ⟨_, rfl, hbl.block mb X8.out.lt, ?_⟩
  simp only [Act.put, List.setIfInBounds_toArray, List.set_cons_zero, List.set_cons_succ]
  have K9 := Lib.hid (K8.out.same (Keeps.of_below (F := fun b => b = g) ((Below.refl _ w8).drew.trans hbl)))
  have C9 := Lib.hid (C8.out.below ((Below.refl _ w8).drew.trans hbl))
  have hcp := copy2 (c2 := c2) (dl := 4) (dc := 4 + m) C9.out (o := 7) (by omega) (by omega) hcl 3
  clear hcl C8 K8 X8 hbl
  refine plan_turn rfl (by kernel_rfl) (fun K hK => ?_)
  go_simp
  clear hcp
  have C10 := Lib.hid ((C9.out.set 7 (byteOf s 0) (by omega)).set 8 (byteOf s 1) (by omega))
  have K10 := Lib.hid ((K9.out.setCell (p := ⟨g, 7, none⟩) (.inl rfl) (bv (byteOf s 0))).setCell (p := ⟨g, 8, none⟩) (.inl rfl) (bv (byteOf s 1)))
  refine hK _ _ ⟨((Below.heap_setCell _ ⟨g, 8, none⟩ (bv (byteOf s 1)) mb hne).trans (Below.heap_setCell w9 ⟨g, 7, none⟩ (bv (byteOf s 0)) mb hne)), ?_⟩
  clear hK K C9 K9
  generalize (w9.setCell ⟨g, 7, none⟩ (bv (byteOf s 0))).setCell ⟨g, 8, none⟩ (bv (byteOf s 1)) = w10 at *
  refine plan_end ?_
  go_wp2_with fail
  have X10 := Lib.hid (K10.out.blk X3.out hne)
  have hx := X10.out.drew
  have s5 := fun (W' : World) (h : W'.heap[mb]? = w10.drew.heap[mb]?) => (World.cell?_of_block (a := ⟨mb, 5, none⟩) h).trans (hx.cell 5)
  simp only [List.getElem?_toArray, List.getElem?_cons_zero, List.getElem?_cons_succ] at s5
  have m64 : IntKind.u64.wrap (m : Int) = (m : Int) := by rw [IntKind.wrap_u64]; omega
  refine wp_region_plan_by (fun u u' => u'.heap[mb]? = u.heap[mb]?) ⟨fun _ => rfl, fun h k => k.trans h⟩ [(0, false), (1, false), (2, false), (3, false), (4, false), (5, false), (6, true), (7, true)] (by kernel_rfl) (by kernel_rfl) (fun _ d _ _ _ h => by cases d <;> exact h) ?_
  iterate 1 (refine plan_take (v := ?_) rfl (by kernel_rfl) ?_ ?_; rotate_left; (focus (intro w' hw'; try go_simp; try with_reducible rfl)); simp only [Act.put, List.setIfInBounds_toArray, List.set_cons_zero, List.set_cons_succ])
  refine plan_take (v := .slice (some ⟨g, 9, none⟩) 2 (2 + m)) rfl (by kernel_rfl) ?_ ?_
  · intro w' hw'
    go_simp
    omega
  simp only [Act.put, List.setIfInBounds_toArray, List.set_cons_zero, List.set_cons_succ]
  iterate 4 (refine plan_take (v := ?_) rfl (by kernel_rfl) ?_ ?_; rotate_left; (focus (intro w' hw'; try go_simp; try with_reducible rfl)); simp only [Act.put, List.setIfInBounds_toArray, List.set_cons_zero, List.set_cons_succ])
  clear s5 m64 hx
  refine plan_call rfl (by kernel_rfl) (by go_simp; exact ⟨rfl, rfl⟩) ?_
  refine (bytes2 m w10.drew (by omega)).mono ?_
  rintro e w11 ⟨b3, o3, c3, rfl, hcl, hbl⟩
  refine ⟨_, rfl, hbl.block mb X10.out.lt, ?_⟩
  simp only [Act.put, List.setIfInBounds_toArray, List.set_cons_zero, List.set_cons_succ]
  have K11 := Lib.hid (K10.out.same (Keeps.of_below (F := fun b => b = g) ((Below.refl _ w10).drew.trans hbl)))
  have C11 := Lib.hid (C10.out.below ((Below.refl _ w10).drew.trans hbl))
  have hcp := copy2 (c2 := c3) (dl := 2) (dc := 2 + m) C11.out (o := 9) (by omega) (by omega) hcl 3
  clear hcl C10 K10 X10 hbl
  refine plan_turn rfl (by kernel_rfl) (fun K hK => ?_)
  go_simp
  clear hcp
  have C12 := Lib.hid ((C11.out.set 9 (byteOf m 0) (by omega)).set 10 (byteOf m 1) (by omega))
  have K12 := Lib.hid ((K11.out.setCell (p := ⟨g, 9, none⟩) (.inl rfl) (bv (byteOf m 0))).setCell (p := ⟨g, 10, none⟩) (.inl rfl) (bv (byteOf m 1)))
  refine hK _ _ ⟨((Below.heap_setCell _ ⟨g, 10, none⟩ (bv (byteOf m 1)) mb hne).trans (Below.heap_setCell w11 ⟨g, 9, none⟩ (bv (byteOf m 0)) mb hne)), ?_⟩
  clear hK K C11 K11
  generalize (w11.setCell ⟨g, 9, none⟩ (bv (byteOf m 0))).setCell ⟨g, 10, none⟩ (bv (byteOf m 1)) = w12 at *
  refine plan_end ?_
  have X12 := Lib.hid (K12.out.blk X3.out hne)
  have x5 := X12.out.cell 5
  have xl := X12.out.lt
  simp only [List.getElem?_toArray, List.getElem?_cons_zero, List.getElem?_cons_succ] at x5
  have B12 : Hid (Below W.heap.size W w12) := Lib.hid (B3.out.trans (K12.out.below (fun i e => by rw [e]; exact HBG.out) B3.out.size))
  have HO : Hid (w12.ownsRow W.heap.size 5 1 (.slice (some ⟨g, 0, none⟩) 11 (11 + m)) 11 ((putH k p nd h s m).map bv)) := Lib.hid (C12.out.own (by omega) HBG.out (by unfold maxLen; omega))
  have HRD : Hid (Reads w12 w12.heap.size 1 A m (D.map bv)) := Lib.hid (by have h := reads_bts (bts_below HBT.out B12.out); rw [HM.out] at h; exact h)
  clear C12 K12 X12
  go_wp2_with (at_builtin; refine wpList_append_any _ rfl (.tmp 50) (.tmp 52) _ rfl W.heap.size 5 i0 _ 1 1 Tryd.underlying22 hi0 hz0 hz1 hz2 rfl (by decide) _ 11 ((putH k p nd h s m).map bv) rfl HO.out w12.heap.size A m c (D.map bv) rfl HRD.out (one_bv D) (by unfold maxLen; omega) (by omega) B12.out.size ?_; intro v2 w13 hown hgrow hat; have HO2 := Lib.hid hown; have HG := Lib.hid (B12.out.grown hgrow B12.out.size (fun k hk => by cases hk; exact HBG.out)); clear hown hgrow hat)
  refine bodyPost_ret (v := .tuple #[v2, .int .i64 0]) (by simp [results, Tryd.results11, go_sem]) rfl ?_
  refine ⟨v2, rfl, ?_, HG.out⟩
  have ho := HO2.out
  have e : putL k p nd h s D = putH k p nd h s m ++ D := by unfold putL; rw [HM.out]
  have el : (putL k p nd h s D).length = 11 + m := by rw [e, List.length_append, HM.out]; rfl
  rw [el, e, List.map_append]
  exact ho
end Go.Proofs.YtkkgigdgbiklmaaDoor
