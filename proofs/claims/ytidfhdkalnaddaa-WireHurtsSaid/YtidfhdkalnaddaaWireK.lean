/- Get whole; the reference's Plain. -/
import Derived.Test.YtidfhdkalnaddaaWireJ
import Derived.Test.YtidfhdkalnaddaaPlanI
import Derived.Test.YtidfhdkalnaddaaWordF
namespace Go.Proofs.Ytidfhdkalnaddaa
open Go.RowKit

/-- What Get answers. -/
def GetAny (l : List Nat) (W : World) (e : Ending) (w' : World) : Prop :=
  Below W.heap.size W w' ∧ if frameB l then ∃ A' c', e = .returned (.tuple #[frV (fF (l.take (l.length - 4))) (fT (l.take (l.length - 4))) (fB (l.take (l.length - 4))) (fS (l.take (l.length - 4))) (fA (l.take (l.length - 4))) A' ((l.take (l.length - 4)).length - 23) c', .bool true]) ∧ Bts w' A' ((l.take (l.length - 4)).drop 23)
  else e = .returned (.tuple #[noneV, .bool false])
theorem wget_any (A : Option Addr) (l : List Nat) (n c : Nat) (W : World) (hl : l.length = n) (hn : n ≤ 1000000) (hc : n ≤ c) (hB : Bts W A l) :
    Calls Try.prog 10 #[.slice A n c] W (GetAny l W) := by
  unfold GetAny frameB
  cases ho : openB l with
  | false =>
    refine (get_closed A l n c W hl hn hc hB ho).mono ?_
    rintro e w' ⟨rfl, hb⟩
    exact ⟨hb, by simp⟩
  | true =>
    cases hh : headOK (l.take (l.length - 4)) with
    | false =>
      refine (get_badhead A l n c W hl hn hc hB ho (by rw [← hl]; exact hh)).mono ?_
      rintro e w' ⟨rfl, hb⟩
      exact ⟨hb, by simp⟩
    | true =>
      refine (get_head A l n c W hl hn hc hB ho (by rw [← hl]; exact hh)).mono ?_
      intro e w' h
      unfold GetR at h
      rw [← hl] at h
      refine ⟨h.1, ?_⟩
      simp only [Bool.true_and]
      exact h.2
def plainP (f t s a : Nat) (BB : Bool) (l : List Nat) (i : Nat) (v : Value) (w : World) : Prop :=
  match i with
  | 7 => ∃ A c, v = .slice A 5 c ∧ Bts w A (headL f t BB)
  | 8 => v = .string (strB (headL f t BB))
  | 11 => ∃ A c, v = .slice A 8 c ∧ Bts w A (bytesOf s 8)
  | 12 => v = .string (strB (bytesOf s 8))
  | 13 => v = .string (strB (headL f t BB ++ bytesOf s 8))
  | 16 => ∃ A c, v = .slice A 8 c ∧ Bts w A (bytesOf a 8)
  | 17 => v = .string (strB (bytesOf a 8))
  | 18 => v = .string (strB (headL f t BB ++ bytesOf s 8 ++ bytesOf a 8))
  | 25 => ∃ A c, v = .slice A 2 c ∧ Bts w A (bytesOf l.length 2)
  | 26 => v = .string (strB (bytesOf l.length 2))
  | 27 => v = .string (strB (headL f t BB ++ bytesOf s 8 ++ bytesOf a 8 ++ bytesOf l.length 2))
  | 31 => v = .string (strB (headL f t BB ++ bytesOf s 8 ++ bytesOf a 8 ++ bytesOf l.length 2 ++ l))
  | 32 => v = .string (strB (headL f t BB ++ bytesOf s 8 ++ bytesOf a 8 ++ bytesOf l.length 2 ++ l))
  | _ => True
theorem plainP_later (f t s a : Nat) (b : Bool) (l : List Nat) (i : Nat) (v : Value) (w w' : World) (hr : Ext w w') (h : plainP f t s a b l i v w) : plainP f t s a b l i v w' := by
  unfold plainP at h ⊢
  split
  · exact (let ⟨A, c, e, hB⟩ := h; ⟨A, c, e, bts_below hB hr⟩)
  · exact h
  · exact (let ⟨A, c, e, hB⟩ := h; ⟨A, c, e, bts_below hB hr⟩)
  · exact h
  · exact h
  · exact (let ⟨A, c, e, hB⟩ := h; ⟨A, c, e, bts_below hB hr⟩)
  · exact h
  · exact h
  · exact (let ⟨A, c, e, hB⟩ := h; ⟨A, c, e, bts_below hB hr⟩)
  · exact h
  · exact h
  · exact h
  · exact h
  · trivial
set_option maxHeartbeats 2000000 in
theorem plain_true (f t s a : Nat) (A : Option Addr) (l : List Nat) (c : Nat) (W : World) (hf : f ≤ 15) (ht : t ≤ 15) (hs : s < 18446744073709551616) (ha : a < 18446744073709551616) (hn : l.length ≤ 5000) (hB : Bts W A l) :
    Calls Try.prog 22 #[frV f t true s a A l.length c] W fun e w' => e = .returned (.string (strB (plainL f t true s a l))) ∧ Below W.heap.size W w' := by
  have hX := Blkf.new_at W 25 (0, 0) #[.int .i64 f, .int .i64 t, .bool true, .int .u64 s, .int .u64 a, .slice A l.length c] rfl
  have HX := Lib.hid hX
  have HB := Lib.hid hB
  have HB0 : Hid (Below W.heap.size W (W.alloc (.cells #[.int .i64 f, .int .i64 t, .bool true, .int .u64 s, .int .u64 a, .slice A l.length c] 25))) := Lib.hid ((Below.refl _ W).alloc (Nat.le_refl _) _)
  have HN2 : Hid (bytesOf l.length 2 = [l.length % 256, l.length / 256]) := Lib.hid (by
    have h1 : byteOf l.length 0 = l.length % 256 := by simp [byteOf]
    have h2 : byteOf l.length 1 = l.length / 256 := by simp [byteOf]; omega
    simp [bytesOf, sizeB, List.range, List.range.loop, h1, h2])
  unfold frV
  clear hB hX
  go_enter Try.func22, Try.ntmps22
  go_wp2_with fail
  have s0 := fun W' (h : Ext (W.alloc (.cells #[.int .i64 f, .int .i64 t, .bool true, .int .u64 s, .int .u64 a, .slice A l.length c] 25)).drew W') => (h.cell (p := ⟨W.heap.size, 0, none⟩) HX.out.lt).trans (HX.out.cell 0)
  have s1 := fun W' (h : Ext (W.alloc (.cells #[.int .i64 f, .int .i64 t, .bool true, .int .u64 s, .int .u64 a, .slice A l.length c] 25)).drew W') => (h.cell (p := ⟨W.heap.size, 1, none⟩) HX.out.lt).trans (HX.out.cell 1)
  have s3 := fun W' (h : Ext (W.alloc (.cells #[.int .i64 f, .int .i64 t, .bool true, .int .u64 s, .int .u64 a, .slice A l.length c] 25)).drew W') => (h.cell (p := ⟨W.heap.size, 3, none⟩) HX.out.lt).trans (HX.out.cell 3)
  have s4 := fun W' (h : Ext (W.alloc (.cells #[.int .i64 f, .int .i64 t, .bool true, .int .u64 s, .int .u64 a, .slice A l.length c] 25)).drew W') => (h.cell (p := ⟨W.heap.size, 4, none⟩) HX.out.lt).trans (HX.out.cell 4)
  have s5 := fun W' (h : Ext (W.alloc (.cells #[.int .i64 f, .int .i64 t, .bool true, .int .u64 s, .int .u64 a, .slice A l.length c] 25)).drew W') => (h.cell (p := ⟨W.heap.size, 5, none⟩) HX.out.lt).trans (HX.out.cell 5)
  have hcv : ∀ W', Ext (W.alloc (.cells #[.int .i64 f, .int .i64 t, .bool true, .int .u64 s, .int .u64 a, .slice A l.length c] 25)).drew W' → (convert 23 9 (.slice A l.length c)).run Try.prog W' = .ok (.string (strB l)) W' := fun W' h => conv_bts (bts_ext (bts_below HB.out HB0.out) h) rfl
  refine wp_region_pt Ext later_ext (PT.steps [0, 1, 2, 3, 4, 5, 6, 9, 10, 14, 15, 19, 20, 21, 22, 23, 24, 28, 29, 30] (.rest 13 (doneL 33 [0, 1, 2, 3, 4, 5, 6, 9, 10, 14, 15, 19, 20, 21, 22, 23, 24, 28, 29, 30]))) (by kernel_rfl) (by kernel_rfl) (fun _ d _ _ _ h => by cases d <;> exact h) ?_
  unfold PT.steps
  iterate 20 (refine pt_take (v := ?_) rfl (by kernel_rfl) ?_ ?_; rotate_left; (focus (intro w' hw'; go_simp; try with_reducible rfl)); simp only [Act.put, List.setIfInBounds_toArray, List.set_cons_zero, List.set_cons_succ])
  clear s0 s1 s3 s4 s5 hcv
  rw [show IntKind.u8.wrap (f : Int) = (f : Int) from by rw [IntKind.wrap_u8]; omega, show IntKind.u8.wrap (t : Int) = (t : Int) from by rw [IntKind.wrap_u8]; omega, show IntKind.u8.wrap ((l.length : Int).tmod 256) = ((l.length % 256 : Nat) : Int) from by rw [IntKind.wrap_u8, Int.tmod_eq_emod_of_nonneg (by omega)]; omega, show IntKind.u8.wrap (IntKind.i64.wrap ((l.length : Int) / 256)) = ((l.length / 256 : Nat) : Int) from by rw [IntKind.wrap_u8, IntKind.wrap_i64]; omega]
  refine pt_rest later_ext (plainP f t s a true l) (ds := [(7, some 17), (8, some 18), (11, some 21), (12, some 22), (13, some 23), (16, some 26), (17, some 27), (18, some 28), (25, some 35), (26, some 36), (27, some 37), (31, some 41), (32, some 2)]) rfl (by kernel_rfl) (plainP_later f t s a true l) ?_ ?_
  · refine ⟨?_, ?_, ?_, ?_, ?_, ?_, ?_, ?_, ?_, ?_, ?_, ?_, ?_, trivial⟩
    · refine inv_op rfl (fun x w hw hp => ?_) rfl
      simp only [fill, Act.put, List.setIfInBounds_toArray, List.set_cons_zero, List.set_cons_succ]
      refine ⟨by kernel_rfl, fun K hK => ?_⟩
      go_simp
      refine hK _ _ ((Ext.refl _).alloc (Nat.le_refl _) _) ⟨some ⟨w.heap.size, 0, none⟩, 5, rfl, ?_⟩
      exact bts_lit w (0, 0) (headL f t true) (headL_lt f t true hf ht) _ rfl
    · refine inv_pure later_ext rfl (fun x w hw hp => ?_) rfl
      obtain ⟨A7, c7, e7, h7⟩ := hp 7 (by kernel_rfl)
      simp only [fill, Act.put, List.setIfInBounds_toArray, List.set_cons_zero, List.set_cons_succ]
      have hcv := conv_bts (c := c7) h7 (n := 5) rfl
      refine ⟨by kernel_rfl, _, by go_simp, rfl⟩
    · refine inv_call rfl (fun x w hw hp => ?_) rfl
      simp only [fill, Act.put, List.setIfInBounds_toArray, List.set_cons_zero, List.set_cons_succ]
      refine ⟨by kernel_rfl, _, _, by go_simp; exact ⟨rfl, rfl⟩, ?_⟩
      refine (rbytes_any s 8 _ (by omega)).mono ?_
      rintro e w1 ⟨v, rfl, ho, hb⟩
      obtain ⟨A1, c1, rfl, hB1, -⟩ := bts_own ho (bytesOf_lt _ _) rfl
      exact ⟨_, rfl, hb, _, _, by rw [e8], hB1⟩
    · refine inv_pure later_ext rfl (fun x w hw hp => ?_) rfl
      obtain ⟨A11, c11, e11, h11⟩ := hp 11 (by kernel_rfl)
      simp only [fill, Act.put, List.setIfInBounds_toArray, List.set_cons_zero, List.set_cons_succ]
      have hcv := conv_bts (c := c11) h11 (n := 8) (e8 _)
      refine ⟨by kernel_rfl, _, by go_simp, rfl⟩
    · refine inv_pure later_ext rfl (fun x w hw hp => ?_) rfl
      have e8 : x 8 = _ := hp 8 (by kernel_rfl)
      have e12 : x 12 = _ := hp 12 (by kernel_rfl)
      simp only [fill, Act.put, List.setIfInBounds_toArray, List.set_cons_zero, List.set_cons_succ]
      refine ⟨by kernel_rfl, _, by go_simp; rfl, ?_⟩
      show _ = Value.string (strB (headL f t true ++ bytesOf s 8))
      rw [strB_append]
      try simp only [List.append_assoc]
    · refine inv_call rfl (fun x w hw hp => ?_) rfl
      simp only [fill, Act.put, List.setIfInBounds_toArray, List.set_cons_zero, List.set_cons_succ]
      refine ⟨by kernel_rfl, _, _, by go_simp; exact ⟨rfl, rfl⟩, ?_⟩
      refine (rbytes_any a 8 _ (by omega)).mono ?_
      rintro e w1 ⟨v, rfl, ho, hb⟩
      obtain ⟨A1, c1, rfl, hB1, -⟩ := bts_own ho (bytesOf_lt _ _) rfl
      exact ⟨_, rfl, hb, _, _, by rw [e8], hB1⟩
    · refine inv_pure later_ext rfl (fun x w hw hp => ?_) rfl
      obtain ⟨A16, c16, e16, h16⟩ := hp 16 (by kernel_rfl)
      simp only [fill, Act.put, List.setIfInBounds_toArray, List.set_cons_zero, List.set_cons_succ]
      have hcv := conv_bts (c := c16) h16 (n := 8) (e8 _)
      refine ⟨by kernel_rfl, _, by go_simp, rfl⟩
    · refine inv_pure later_ext rfl (fun x w hw hp => ?_) rfl
      have e13 : x 13 = _ := hp 13 (by kernel_rfl)
      have e17 : x 17 = _ := hp 17 (by kernel_rfl)
      simp only [fill, Act.put, List.setIfInBounds_toArray, List.set_cons_zero, List.set_cons_succ]
      refine ⟨by kernel_rfl, _, by go_simp; rfl, ?_⟩
      show _ = Value.string (strB (headL f t true ++ bytesOf s 8 ++ bytesOf a 8))
      rw [strB_append]
      try simp only [List.append_assoc]
    · refine inv_op rfl (fun x w hw hp => ?_) rfl
      simp only [fill, Act.put, List.setIfInBounds_toArray, List.set_cons_zero, List.set_cons_succ]
      refine ⟨by kernel_rfl, fun K hK => ?_⟩
      go_simp
      refine hK _ _ ((Ext.refl _).alloc (Nat.le_refl _) _) ⟨some ⟨w.heap.size, 0, none⟩, 2, rfl, ?_⟩
      rw [HN2.out]
      exact bts_lit w (0, 0) [l.length % 256, l.length / 256] (fun i => by rw [← HN2.out]; exact bytesOf_lt _ _ i) _ rfl
    · refine inv_pure later_ext rfl (fun x w hw hp => ?_) rfl
      obtain ⟨A25, c25, e25, h25⟩ := hp 25 (by kernel_rfl)
      simp only [fill, Act.put, List.setIfInBounds_toArray, List.set_cons_zero, List.set_cons_succ]
      have hcv := conv_bts (c := c25) h25 (n := 2) (e2 _)
      refine ⟨by kernel_rfl, _, by go_simp, rfl⟩
    · refine inv_pure later_ext rfl (fun x w hw hp => ?_) rfl
      have e18 : x 18 = _ := hp 18 (by kernel_rfl)
      have e26 : x 26 = _ := hp 26 (by kernel_rfl)
      simp only [fill, Act.put, List.setIfInBounds_toArray, List.set_cons_zero, List.set_cons_succ]
      refine ⟨by kernel_rfl, _, by go_simp; rfl, ?_⟩
      show _ = Value.string (strB (headL f t true ++ bytesOf s 8 ++ bytesOf a 8 ++ bytesOf l.length 2))
      rw [strB_append]
      try simp only [List.append_assoc]
    · refine inv_pure later_ext rfl (fun x w hw hp => ?_) rfl
      have e27 : x 27 = _ := hp 27 (by kernel_rfl)
      simp only [fill, Act.put, List.setIfInBounds_toArray, List.set_cons_zero, List.set_cons_succ]
      refine ⟨by kernel_rfl, _, by go_simp; rw [if_neg (by rw [strB_size, strB_size]; simp [headL, e8, e2]; omega)], ?_⟩
      show _ = Value.string (strB (headL f t true ++ bytesOf s 8 ++ bytesOf a 8 ++ bytesOf l.length 2 ++ l))
      rw [strB_append]
      try simp only [List.append_assoc]
    · refine inv_pure later_ext rfl (fun x w hw hp => ?_) rfl
      have e31 : x 31 = _ := hp 31 (by kernel_rfl)
      simp only [fill, Act.put, List.setIfInBounds_toArray, List.set_cons_zero, List.set_cons_succ]
      refine ⟨by kernel_rfl, _, by go_simp, rfl⟩
  · intro x w hw hp
    have e32 : x 32 = _ := hp (32, some 2) (by simp)
    simp only [fill, Act.put, List.setIfInBounds_toArray, List.set_cons_zero, List.set_cons_succ]
    rw [e32]
    go_wp2
    go_ret
    refine ⟨?_, Below.trans HB0.out.drew (Below.mono hw HB0.out.size)⟩
    simp [plainL]
set_option maxHeartbeats 2000000 in
theorem plain_false (f t s a : Nat) (A : Option Addr) (l : List Nat) (c : Nat) (W : World) (hf : f ≤ 15) (ht : t ≤ 15) (hs : s < 18446744073709551616) (ha : a < 18446744073709551616) (hn : l.length ≤ 5000) (hB : Bts W A l) :
    Calls Try.prog 22 #[frV f t false s a A l.length c] W fun e w' => e = .returned (.string (strB (plainL f t false s a l))) ∧ Below W.heap.size W w' := by
  have hX := Blkf.new_at W 25 (0, 0) #[.int .i64 f, .int .i64 t, .bool false, .int .u64 s, .int .u64 a, .slice A l.length c] rfl
  have HX := Lib.hid hX
  have HB := Lib.hid hB
  have HB0 : Hid (Below W.heap.size W (W.alloc (.cells #[.int .i64 f, .int .i64 t, .bool false, .int .u64 s, .int .u64 a, .slice A l.length c] 25))) := Lib.hid ((Below.refl _ W).alloc (Nat.le_refl _) _)
  have HN2 : Hid (bytesOf l.length 2 = [l.length % 256, l.length / 256]) := Lib.hid (by
    have h1 : byteOf l.length 0 = l.length % 256 := by simp [byteOf]
    have h2 : byteOf l.length 1 = l.length / 256 := by simp [byteOf]; omega
    simp [bytesOf, sizeB, List.range, List.range.loop, h1, h2])
  unfold frV
  clear hB hX
  go_enter Try.func22, Try.ntmps22
  go_wp2_with fail
  have s0 := fun W' (h : Ext (W.alloc (.cells #[.int .i64 f, .int .i64 t, .bool false, .int .u64 s, .int .u64 a, .slice A l.length c] 25)).drew W') => (h.cell (p := ⟨W.heap.size, 0, none⟩) HX.out.lt).trans (HX.out.cell 0)
  have s1 := fun W' (h : Ext (W.alloc (.cells #[.int .i64 f, .int .i64 t, .bool false, .int .u64 s, .int .u64 a, .slice A l.length c] 25)).drew W') => (h.cell (p := ⟨W.heap.size, 1, none⟩) HX.out.lt).trans (HX.out.cell 1)
  have s3 := fun W' (h : Ext (W.alloc (.cells #[.int .i64 f, .int .i64 t, .bool false, .int .u64 s, .int .u64 a, .slice A l.length c] 25)).drew W') => (h.cell (p := ⟨W.heap.size, 3, none⟩) HX.out.lt).trans (HX.out.cell 3)
  have s4 := fun W' (h : Ext (W.alloc (.cells #[.int .i64 f, .int .i64 t, .bool false, .int .u64 s, .int .u64 a, .slice A l.length c] 25)).drew W') => (h.cell (p := ⟨W.heap.size, 4, none⟩) HX.out.lt).trans (HX.out.cell 4)
  have s5 := fun W' (h : Ext (W.alloc (.cells #[.int .i64 f, .int .i64 t, .bool false, .int .u64 s, .int .u64 a, .slice A l.length c] 25)).drew W') => (h.cell (p := ⟨W.heap.size, 5, none⟩) HX.out.lt).trans (HX.out.cell 5)
  have hcv : ∀ W', Ext (W.alloc (.cells #[.int .i64 f, .int .i64 t, .bool false, .int .u64 s, .int .u64 a, .slice A l.length c] 25)).drew W' → (convert 23 9 (.slice A l.length c)).run Try.prog W' = .ok (.string (strB l)) W' := fun W' h => conv_bts (bts_ext (bts_below HB.out HB0.out) h) rfl
  refine wp_region_pt Ext later_ext (PT.steps [0, 1, 2, 3, 4, 5, 6, 9, 10, 14, 15, 19, 20, 21, 22, 23, 24, 28, 29, 30] (.rest 13 (doneL 33 [0, 1, 2, 3, 4, 5, 6, 9, 10, 14, 15, 19, 20, 21, 22, 23, 24, 28, 29, 30]))) (by kernel_rfl) (by kernel_rfl) (fun _ d _ _ _ h => by cases d <;> exact h) ?_
  unfold PT.steps
  iterate 20 (refine pt_take (v := ?_) rfl (by kernel_rfl) ?_ ?_; rotate_left; (focus (intro w' hw'; go_simp; try with_reducible rfl)); simp only [Act.put, List.setIfInBounds_toArray, List.set_cons_zero, List.set_cons_succ])
  clear s0 s1 s3 s4 s5 hcv
  rw [show IntKind.u8.wrap (f : Int) = (f : Int) from by rw [IntKind.wrap_u8]; omega, show IntKind.u8.wrap (t : Int) = (t : Int) from by rw [IntKind.wrap_u8]; omega, show IntKind.u8.wrap ((l.length : Int).tmod 256) = ((l.length % 256 : Nat) : Int) from by rw [IntKind.wrap_u8, Int.tmod_eq_emod_of_nonneg (by omega)]; omega, show IntKind.u8.wrap (IntKind.i64.wrap ((l.length : Int) / 256)) = ((l.length / 256 : Nat) : Int) from by rw [IntKind.wrap_u8, IntKind.wrap_i64]; omega]
  refine pt_rest later_ext (plainP f t s a false l) (ds := [(7, some 17), (8, some 18), (11, some 21), (12, some 22), (13, some 23), (16, some 26), (17, some 27), (18, some 28), (25, some 35), (26, some 36), (27, some 37), (31, some 41), (32, some 2)]) rfl (by kernel_rfl) (plainP_later f t s a false l) ?_ ?_
  · refine ⟨?_, ?_, ?_, ?_, ?_, ?_, ?_, ?_, ?_, ?_, ?_, ?_, ?_, trivial⟩
    · refine inv_op rfl (fun x w hw hp => ?_) rfl
      simp only [fill, Act.put, List.setIfInBounds_toArray, List.set_cons_zero, List.set_cons_succ]
      refine ⟨by kernel_rfl, fun K hK => ?_⟩
      go_simp
      refine hK _ _ ((Ext.refl _).alloc (Nat.le_refl _) _) ⟨some ⟨w.heap.size, 0, none⟩, 5, rfl, ?_⟩
      exact bts_lit w (0, 0) (headL f t false) (headL_lt f t false hf ht) _ rfl
    · refine inv_pure later_ext rfl (fun x w hw hp => ?_) rfl
      obtain ⟨A7, c7, e7, h7⟩ := hp 7 (by kernel_rfl)
      simp only [fill, Act.put, List.setIfInBounds_toArray, List.set_cons_zero, List.set_cons_succ]
      have hcv := conv_bts (c := c7) h7 (n := 5) rfl
      refine ⟨by kernel_rfl, _, by go_simp, rfl⟩
    · refine inv_call rfl (fun x w hw hp => ?_) rfl
      simp only [fill, Act.put, List.setIfInBounds_toArray, List.set_cons_zero, List.set_cons_succ]
      refine ⟨by kernel_rfl, _, _, by go_simp; exact ⟨rfl, rfl⟩, ?_⟩
      refine (rbytes_any s 8 _ (by omega)).mono ?_
      rintro e w1 ⟨v, rfl, ho, hb⟩
      obtain ⟨A1, c1, rfl, hB1, -⟩ := bts_own ho (bytesOf_lt _ _) rfl
      exact ⟨_, rfl, hb, _, _, by rw [e8], hB1⟩
    · refine inv_pure later_ext rfl (fun x w hw hp => ?_) rfl
      obtain ⟨A11, c11, e11, h11⟩ := hp 11 (by kernel_rfl)
      simp only [fill, Act.put, List.setIfInBounds_toArray, List.set_cons_zero, List.set_cons_succ]
      have hcv := conv_bts (c := c11) h11 (n := 8) (e8 _)
      refine ⟨by kernel_rfl, _, by go_simp, rfl⟩
    · refine inv_pure later_ext rfl (fun x w hw hp => ?_) rfl
      have e8 : x 8 = _ := hp 8 (by kernel_rfl)
      have e12 : x 12 = _ := hp 12 (by kernel_rfl)
      simp only [fill, Act.put, List.setIfInBounds_toArray, List.set_cons_zero, List.set_cons_succ]
      refine ⟨by kernel_rfl, _, by go_simp; rfl, ?_⟩
      show _ = Value.string (strB (headL f t false ++ bytesOf s 8))
      rw [strB_append]
      try simp only [List.append_assoc]
    · refine inv_call rfl (fun x w hw hp => ?_) rfl
      simp only [fill, Act.put, List.setIfInBounds_toArray, List.set_cons_zero, List.set_cons_succ]
      refine ⟨by kernel_rfl, _, _, by go_simp; exact ⟨rfl, rfl⟩, ?_⟩
      refine (rbytes_any a 8 _ (by omega)).mono ?_
      rintro e w1 ⟨v, rfl, ho, hb⟩
      obtain ⟨A1, c1, rfl, hB1, -⟩ := bts_own ho (bytesOf_lt _ _) rfl
      exact ⟨_, rfl, hb, _, _, by rw [e8], hB1⟩
    · refine inv_pure later_ext rfl (fun x w hw hp => ?_) rfl
      obtain ⟨A16, c16, e16, h16⟩ := hp 16 (by kernel_rfl)
      simp only [fill, Act.put, List.setIfInBounds_toArray, List.set_cons_zero, List.set_cons_succ]
      have hcv := conv_bts (c := c16) h16 (n := 8) (e8 _)
      refine ⟨by kernel_rfl, _, by go_simp, rfl⟩
    · refine inv_pure later_ext rfl (fun x w hw hp => ?_) rfl
      have e13 : x 13 = _ := hp 13 (by kernel_rfl)
      have e17 : x 17 = _ := hp 17 (by kernel_rfl)
      simp only [fill, Act.put, List.setIfInBounds_toArray, List.set_cons_zero, List.set_cons_succ]
      refine ⟨by kernel_rfl, _, by go_simp; rfl, ?_⟩
      show _ = Value.string (strB (headL f t false ++ bytesOf s 8 ++ bytesOf a 8))
      rw [strB_append]
      try simp only [List.append_assoc]
    · refine inv_op rfl (fun x w hw hp => ?_) rfl
      simp only [fill, Act.put, List.setIfInBounds_toArray, List.set_cons_zero, List.set_cons_succ]
      refine ⟨by kernel_rfl, fun K hK => ?_⟩
      go_simp
      refine hK _ _ ((Ext.refl _).alloc (Nat.le_refl _) _) ⟨some ⟨w.heap.size, 0, none⟩, 2, rfl, ?_⟩
      rw [HN2.out]
      exact bts_lit w (0, 0) [l.length % 256, l.length / 256] (fun i => by rw [← HN2.out]; exact bytesOf_lt _ _ i) _ rfl
    · refine inv_pure later_ext rfl (fun x w hw hp => ?_) rfl
      obtain ⟨A25, c25, e25, h25⟩ := hp 25 (by kernel_rfl)
      simp only [fill, Act.put, List.setIfInBounds_toArray, List.set_cons_zero, List.set_cons_succ]
      have hcv := conv_bts (c := c25) h25 (n := 2) (e2 _)
      refine ⟨by kernel_rfl, _, by go_simp, rfl⟩
    · refine inv_pure later_ext rfl (fun x w hw hp => ?_) rfl
      have e18 : x 18 = _ := hp 18 (by kernel_rfl)
      have e26 : x 26 = _ := hp 26 (by kernel_rfl)
      simp only [fill, Act.put, List.setIfInBounds_toArray, List.set_cons_zero, List.set_cons_succ]
      refine ⟨by kernel_rfl, _, by go_simp; rfl, ?_⟩
      show _ = Value.string (strB (headL f t false ++ bytesOf s 8 ++ bytesOf a 8 ++ bytesOf l.length 2))
      rw [strB_append]
      try simp only [List.append_assoc]
    · refine inv_pure later_ext rfl (fun x w hw hp => ?_) rfl
      have e27 : x 27 = _ := hp 27 (by kernel_rfl)
      simp only [fill, Act.put, List.setIfInBounds_toArray, List.set_cons_zero, List.set_cons_succ]
      refine ⟨by kernel_rfl, _, by go_simp; rw [if_neg (by rw [strB_size, strB_size]; simp [headL, e8, e2]; omega)], ?_⟩
      show _ = Value.string (strB (headL f t false ++ bytesOf s 8 ++ bytesOf a 8 ++ bytesOf l.length 2 ++ l))
      rw [strB_append]
      try simp only [List.append_assoc]
    · refine inv_pure later_ext rfl (fun x w hw hp => ?_) rfl
      have e31 : x 31 = _ := hp 31 (by kernel_rfl)
      simp only [fill, Act.put, List.setIfInBounds_toArray, List.set_cons_zero, List.set_cons_succ]
      refine ⟨by kernel_rfl, _, by go_simp, rfl⟩
  · intro x w hw hp
    have e32 : x 32 = _ := hp (32, some 2) (by simp)
    simp only [fill, Act.put, List.setIfInBounds_toArray, List.set_cons_zero, List.set_cons_succ]
    rw [e32]
    go_wp2
    go_ret
    refine ⟨?_, Below.trans HB0.out.drew (Below.mono hw HB0.out.size)⟩
    simp [plainL]
end Go.Proofs.Ytidfhdkalnaddaa
