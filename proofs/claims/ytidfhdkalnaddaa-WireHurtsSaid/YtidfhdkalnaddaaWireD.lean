/- Put. -/
import Derived.Test.YtidfhdkalnaddaaWireC
import Derived.Test.YtidfhdkalnaddaaCheckH
import Derived.Test.YtidfhdkalnaddaaPlanT
namespace Go.Proofs.Ytidfhdkalnaddaa
open Go.RowKit

def bN (b : Bool) : Nat := if b then 1 else 0
def headL (f t : Nat) (b : Bool) : List Nat := [82, 82, bN b, f, t]
def plainL (f t : Nat) (b : Bool) (s a : Nat) (l : List Nat) : List Nat := [headL f t b, bytesOf s 8, bytesOf a 8, bytesOf l.length 2, l].flatten
theorem headL_lt (f t : Nat) (b : Bool) (hf : f ≤ 15) (ht : t ≤ 15) (i : Nat) : (headL f t b).getD i 0 < 256 := by
  have hb : bN b < 256 := by cases b <;> decide
  unfold headL
  match i with
  | 0 => show 82 < 256; decide
  | 1 => show 82 < 256; decide
  | 2 => exact hb
  | 3 => show f < 256; omega
  | 4 => show t < 256; omega
  | i + 5 => simp
theorem e8 (v : Nat) : (bytesOf v 8).length = 8 := bytesOf_length v 8 (by decide)
theorem e2 (v : Nat) : (bytesOf v 2).length = 2 := bytesOf_length v 2 (by decide)
theorem tot5 (f t s a : Nat) (l : List Nat) (b : Bool) : totL [headL f t b, bytesOf s 8, bytesOf a 8, bytesOf l.length 2, l] = 23 + l.length := by
  simp only [totL, e8, e2, headL, List.length_cons, List.length_nil]
  omega
theorem plain_lt (f t s a : Nat) (l : List Nat) (b : Bool) (hf : f ≤ 15) (ht : t ≤ 15) (hl : ∀ i : Nat, l.getD i 0 < 256) (i : Nat) : (plainL f t b s a l).getD i 0 < 256 := by
  have e : plainL f t b s a l = headL f t b ++ (bytesOf s 8 ++ (bytesOf a 8 ++ (bytesOf l.length 2 ++ l))) := by simp [plainL]
  rw [e]
  exact append_lt (headL_lt f t b hf ht) (append_lt (bytesOf_lt s 8) (append_lt (bytesOf_lt a 8) (append_lt (bytesOf_lt l.length 2) hl))) i
theorem own_mono16 {w : World} {base base' : Nat} {e : TypeId} {size : Nat} {v : Value} {n : Nat} {xs : List Value} (h : w.ownsRow base e size v n xs) (hb : base' ≤ base) : w.ownsRow base' e size v n xs := by
  rcases h.2 with hx | ⟨g, cap, cur, e, hg, r⟩
  · exact ⟨h.1, .inl hx⟩
  · exact ⟨h.1, .inr ⟨g, cap, cur, e, Nat.le_trans hb hg, r⟩⟩
theorem bl5 {w : World} {A0 A1 A2 A3 A4 : Option Addr} {L0 L1 L2 L3 L4 : List Nat} {n0 n1 n2 n3 n4 c0 c1 c2 c3 c4 : Nat} (h0 : Bts w A0 L0) (h1 : Bts w A1 L1) (h2 : Bts w A2 L2) (h3 : Bts w A3 L3) (h4 : Bts w A4 L4)
    (e0 : L0.length = n0) (e1 : L1.length = n1) (e2 : L2.length = n2) (e3 : L3.length = n3) (e4 : L4.length = n4) : BL w [.slice A0 n0 c0, .slice A1 n1 c1, .slice A2 n2 c2, .slice A3 n3 c3, .slice A4 n4 c4] [L0, L1, L2, L3, L4] := by
  subst e0 e1 e2 e3 e4
  refine ⟨rfl, fun i hi => ?_⟩
  match i with
  | 0 => exact ⟨_, _, rfl, h0⟩
  | 1 => exact ⟨_, _, rfl, h1⟩
  | 2 => exact ⟨_, _, rfl, h2⟩
  | 3 => exact ⟨_, _, rfl, h3⟩
  | 4 => exact ⟨_, _, rfl, h4⟩
  | i + 5 => exact absurd hi (by simp)
set_option maxHeartbeats 8000000 in
theorem put_true (f t s a : Nat) (A : Option Addr) (l : List Nat) (n c : Nat) (W : World) (hf : f ≤ 15) (ht : t ≤ 15) (hs : s < 18446744073709551616) (ha : a < 18446744073709551616) (hl : l.length = n) (hn : n ≤ 5000) (hB : Bts W A l) (hr : rightF f t true s n = true) :
    Calls Try.prog 7 #[frV f t true s a A n c] W fun e w' => ∃ v, e = .returned (.tuple #[v, .int .i64 0]) ∧ w'.ownsRow W.heap.size 5 1 v (plainL f t true s a l ++ bytesOf (sumV (plainL f t true s a l)) 4).length ((plainL f t true s a l ++ bytesOf (sumV (plainL f t true s a l)) 4).map bv) ∧ Below W.heap.size W w' := by
  have HR := Lib.hid hr
  have HB := Lib.hid hB
  have HL := Lib.hid hl
  have hX := Blkf.new_at W 25 (0, 0) #[.int .i64 f, .int .i64 t, .bool true, .int .u64 s, .int .u64 a, .slice A n c] rfl
  have HX := Lib.hid hX
  have HB0 : Hid (Below W.heap.size W (W.alloc (.cells #[.int .i64 f, .int .i64 t, .bool true, .int .u64 s, .int .u64 a, .slice A n c] 25))) := Lib.hid ((Below.refl _ W).alloc (Nat.le_refl _) _)
  unfold frV
  clear hr hB hl hX
  go_enter Try.func7, Try.ntmps7
  go_wp2_with fail
  refine (right_any f t true s a A n c _ (by omega)).mono ?_
  rintro e w1 ⟨rfl, hb1⟩
  rw [HR.out]
  obtain hX1 := HX.out.below hb1 HX.out.lt
  have HB1 := Lib.hid (HB0.out.trans (hb1.mono HB0.out.size))
  have HX1 := Lib.hid hX1
  have x0 := hX1.cell 0
  have x1 := hX1.cell 1
  have x2 := hX1.cell 2
  have x3 := hX1.cell 3
  have x4 := hX1.cell 4
  have x5 := hX1.cell 5
  have xl := hX1.lt
  have HBT := Lib.hid (bts_below HB.out HB1.out)
  clear hb1 hX1
  go_wp2_with fail
  have s0 := fun W' (h : Ext w1.drew W') => (h.cell (p := ⟨W.heap.size, 0, none⟩) xl).trans (HX1.out.cell 0)
  have s1 := fun W' (h : Ext w1.drew W') => (h.cell (p := ⟨W.heap.size, 1, none⟩) xl).trans (HX1.out.cell 1)
  have s3 := fun W' (h : Ext w1.drew W') => (h.cell (p := ⟨W.heap.size, 3, none⟩) xl).trans (HX1.out.cell 3)
  have s4 := fun W' (h : Ext w1.drew W') => (h.cell (p := ⟨W.heap.size, 4, none⟩) xl).trans (HX1.out.cell 4)
  have s5 := fun W' (h : Ext w1.drew W') => (h.cell (p := ⟨W.heap.size, 5, none⟩) xl).trans (HX1.out.cell 5)
  refine wp_region_pt Ext later_ext (PT.steps [0, 1, 2, 3, 4, 5, 6, 8, 9, 11, 12, 14, 15, 16, 17, 19, 20] (.fork 7 (.turn 10 (.turn 13 (.turn 18 (.turn 21 (.turn 22 (.step 23 .done)))))) 10 (.fork 7 (.turn 13 (.turn 18 (.turn 21 (.turn 22 (.step 23 .done))))) 13 (.fork 7 (.turn 18 (.turn 21 (.turn 22 (.step 23 .done)))) 18 (.turn 7 (.turn 21 (.turn 22 (.step 23 .done)))))))) (by kernel_rfl) (by kernel_rfl) (fun _ d _ _ _ h => by cases d <;> exact h) ?_
  unfold PT.steps
  iterate 17 (refine pt_take (v := ?_) rfl (by kernel_rfl) ?_ ?_; rotate_left; (focus (intro w' hw'; go_simp; try with_reducible rfl)); simp only [Act.put, List.setIfInBounds_toArray, List.set_cons_zero, List.set_cons_succ])
  clear s0 s1 s3 s4 s5 x0 x1 x2 x3 x4 x5
  rw [show IntKind.u8.wrap (f : Int) = (f : Int) from by rw [IntKind.wrap_u8]; omega, show IntKind.u8.wrap (t : Int) = (t : Int) from by rw [IntKind.wrap_u8]; omega, show IntKind.u64.wrap (n : Int) = (n : Int) from by rw [IntKind.wrap_u64]; omega]
  have HC := Lib.hid (HB1.out.drew)
  have HD := Lib.hid (show Bts w1.drew A l from bts_below HB.out HC.out)
  generalize w1.drew = y at *
  clear HBT xl HX1 HB1
  refine pt_fork ?_ ?_
  focus
    refine pt_op rfl (by kernel_rfl) (fun K hK => ?_)
    go_simp
    refine hK _ _ ⟨(Ext.refl _).alloc (Nat.le_refl _) _, ?_⟩
    try simp only [Act.put, List.setIfInBounds_toArray, List.set_cons_zero, List.set_cons_succ]
    have hE := Below.alloc (Ext.refl y) (Nat.le_refl _) (.cells ((headL f t true).map bv).toArray 5)
    have H7 := Lib.hid (bts_lit y (0, 0) (headL f t true) (headL_lt f t true hf ht) _ rfl)
    obtain ⟨g7, hg7⟩ : ∃ g, g = y.heap.size := ⟨_, rfl⟩
    refine (show wpPT _ _ _ _ _ _ (y.alloc (.cells ((headL f t true).map bv).toArray 5)) from ?_)
    have HD := Lib.hid (bts_below HD.out hE)
    have HC := Lib.hid (HC.out.trans (hE.mono HC.out.size))
    rw [← hg7]
    rw [← hg7] at H7
    generalize y.alloc (.cells ((headL f t true).map bv).toArray 5) = yy at *
    clear hK hg7
    clear hE
    refine pt_turn ?_
    refine pt_opcall rfl (by kernel_rfl) (by go_simp; exact ⟨rfl, rfl⟩) ?_
    refine (bytes_any s 8 _ (by omega)).mono ?_
    rintro e yyy ⟨A10, c10, rfl, hB, -, hE⟩
    have H10 := Lib.hid hB
    refine ⟨_, rfl, hE, ?_⟩
    simp only [Act.put, List.setIfInBounds_toArray, List.set_cons_zero, List.set_cons_succ]
    have HD := Lib.hid (bts_below HD.out hE)
    have H7 := Lib.hid (bts_below H7.out hE)
    have HC := Lib.hid (HC.out.trans (hE.mono HC.out.size))
    clear hB
    clear hE
    refine pt_turn ?_
    refine pt_opcall rfl (by kernel_rfl) (by go_simp; exact ⟨rfl, rfl⟩) ?_
    refine (bytes_any a 8 _ (by omega)).mono ?_
    rintro e yyyy ⟨A13, c13, rfl, hB, -, hE⟩
    have H13 := Lib.hid hB
    refine ⟨_, rfl, hE, ?_⟩
    simp only [Act.put, List.setIfInBounds_toArray, List.set_cons_zero, List.set_cons_succ]
    have HD := Lib.hid (bts_below HD.out hE)
    have H7 := Lib.hid (bts_below H7.out hE)
    have H10 := Lib.hid (bts_below H10.out hE)
    have HC := Lib.hid (HC.out.trans (hE.mono HC.out.size))
    clear hB
    clear hE
    refine pt_turn ?_
    refine pt_opcall rfl (by kernel_rfl) (by go_simp; exact ⟨rfl, rfl⟩) ?_
    refine (bytes_any n 2 _ (by omega)).mono ?_
    rintro e yyyyy ⟨A18, c18, rfl, hB, -, hE⟩
    have H18 := Lib.hid hB
    refine ⟨_, rfl, hE, ?_⟩
    simp only [Act.put, List.setIfInBounds_toArray, List.set_cons_zero, List.set_cons_succ]
    have HD := Lib.hid (bts_below HD.out hE)
    have H7 := Lib.hid (bts_below H7.out hE)
    have H10 := Lib.hid (bts_below H10.out hE)
    have H13 := Lib.hid (bts_below H13.out hE)
    have HC := Lib.hid (HC.out.trans (hE.mono HC.out.size))
    clear hB
    clear hE
    obtain rfl := HL.out
    have hE := Below.alloc (Ext.refl yyyyy) (Nat.le_refl _) (.cells ([.slice (some ⟨g7, 0, none⟩) 5 5, .slice A10 (bytesOf s 8).length c10, .slice A13 (bytesOf a 8).length c13, .slice A18 (bytesOf l.length 2).length c18, .slice A l.length c] : List Value).toArray 23)
    have hG : Blk (yyyyy.alloc (.cells ([.slice (some ⟨g7, 0, none⟩) 5 5, .slice A10 (bytesOf s 8).length c10, .slice A13 (bytesOf a 8).length c13, .slice A18 (bytesOf l.length 2).length c18, .slice A l.length c] : List Value).toArray 23)) yyyyy.heap.size 23 ([.slice (some ⟨g7, 0, none⟩) 5 5, .slice A10 (bytesOf s 8).length c10, .slice A13 (bytesOf a 8).length c13, .slice A18 (bytesOf l.length 2).length c18, .slice A l.length c] : List Value).toArray := Blkf.new_at _ _ _ _ rfl
    have HD := Lib.hid (bts_below HD.out hE)
    have H7 := Lib.hid (bts_below H7.out hE)
    have H10 := Lib.hid (bts_below H10.out hE)
    have H13 := Lib.hid (bts_below H13.out hE)
    have H18 := Lib.hid (bts_below H18.out hE)
    have HC := Lib.hid (HC.out.trans (hE.mono HC.out.size))
    have hBL : BL (yyyyy.alloc (.cells ([.slice (some ⟨g7, 0, none⟩) 5 5, .slice A10 (bytesOf s 8).length c10, .slice A13 (bytesOf a 8).length c13, .slice A18 (bytesOf l.length 2).length c18, .slice A l.length c] : List Value).toArray 23)) [.slice (some ⟨g7, 0, none⟩) 5 5, .slice A10 (bytesOf s 8).length c10, .slice A13 (bytesOf a 8).length c13, .slice A18 (bytesOf l.length 2).length c18, .slice A l.length c] [headL f t true, bytesOf s 8, bytesOf a 8, bytesOf l.length 2, l] := bl5 H7.out H10.out H13.out H18.out HD.out rfl rfl rfl rfl rfl
    have hTT := tot5 f t s a l true
    have HG := Lib.hid hG
    have HBL := Lib.hid hBL
    have HTT := Lib.hid hTT
    clear hE hG hBL hTT H7 H10 H13 H18 HD
    refine pt_turn ?_
    refine pt_op rfl (by kernel_rfl) (fun K2 hK2 => ?_)
    go_simp
    refine hK2 _ _ ⟨(Ext.refl _).alloc (Nat.le_refl _) _, ?_⟩
    try simp only [Act.put, List.setIfInBounds_toArray, List.set_cons_zero, List.set_cons_succ]
    clear hK2
    refine pt_turn ?_
    refine pt_opcall rfl (by kernel_rfl) (by go_simp; exact ⟨rfl, rfl⟩) ?_
    refine (concat_any yyyyy.heap.size [.slice (some ⟨g7, 0, none⟩) 5 5, .slice A10 (bytesOf s 8).length c10, .slice A13 (bytesOf a 8).length c13, .slice A18 (bytesOf l.length 2).length c18, .slice A l.length c] [headL f t true, bytesOf s 8, bytesOf a 8, bytesOf l.length 2, l] _ HG.out HBL.out (show (5 : Nat) ≤ 100 by decide) (by rw [HTT.out]; omega) (by rw [HTT.out]; omega)).mono ?_
    rintro e z ⟨v, rfl, hO, hE⟩
    refine ⟨_, rfl, hE, ?_⟩
    try simp only [Act.put, List.setIfInBounds_toArray, List.set_cons_zero, List.set_cons_succ]
    have HC := Lib.hid (HC.out.trans (hE.mono HC.out.size))
    have HO := Lib.hid hO
    clear hO hE HG HBL
    iterate 1 (refine pt_take (v := ?_) rfl (by kernel_rfl) ?_ ?_; rotate_left; (focus (intro w' hw'; go_simp; try with_reducible rfl)); try simp only [Act.put, List.setIfInBounds_toArray, List.set_cons_zero, List.set_cons_succ])
    refine pt_end ?_
    obtain ⟨AP, cp, rfl, hP, -⟩ := bts_own (l := plainL f t true s a l) HO.out (plain_lt f t s a l true hf ht HB.out.1) rfl
    have HP := Lib.hid hP
    have hln : (plainL f t true s a l).length = 23 + l.length := (totL_flat _).trans HTT.out
    obtain ⟨P, hPe⟩ : ∃ P, P = plainL f t true s a l := ⟨_, rfl⟩
    rw [← hPe] at HP hln
    have HPE := Lib.hid hPe
    clear hP hPe HO HTT HB0 HX
    have HZ : Hid (W.heap.size ≤ z.heap.size) := Lib.hid HC.out.size
    go_wp2_with fail
    rw [← HPE.out]
    refine (seal_any AP P cp _ (by omega) HP.out).mono ?_
    rintro e zz ⟨v2, rfl, ho2, hb2⟩
    have HO2 := Lib.hid (own_mono16 ho2 HZ.out)
    have HB2 := Lib.hid (HC.out.trans (hb2.mono HC.out.size))
    clear ho2 hb2
    go_wp2
    go_ret2
    have h2 := HO2.out
    rw [HPE.out] at h2
    exact ⟨_, rfl, h2, HB2.out⟩
  focus
    refine pt_opcall rfl (by kernel_rfl) (by go_simp; exact ⟨rfl, rfl⟩) ?_
    refine (bytes_any s 8 _ (by omega)).mono ?_
    rintro e yy ⟨A10, c10, rfl, hB, -, hE⟩
    have H10 := Lib.hid hB
    refine ⟨_, rfl, hE, ?_⟩
    simp only [Act.put, List.setIfInBounds_toArray, List.set_cons_zero, List.set_cons_succ]
    have HD := Lib.hid (bts_below HD.out hE)
    have HC := Lib.hid (HC.out.trans (hE.mono HC.out.size))
    clear hB
    clear hE
    refine pt_fork ?_ ?_
    focus
      refine pt_op rfl (by kernel_rfl) (fun K hK => ?_)
      go_simp
      refine hK _ _ ⟨(Ext.refl _).alloc (Nat.le_refl _) _, ?_⟩
      try simp only [Act.put, List.setIfInBounds_toArray, List.set_cons_zero, List.set_cons_succ]
      have hE := Below.alloc (Ext.refl yy) (Nat.le_refl _) (.cells ((headL f t true).map bv).toArray 5)
      have H7 := Lib.hid (bts_lit yy (0, 0) (headL f t true) (headL_lt f t true hf ht) _ rfl)
      obtain ⟨g7, hg7⟩ : ∃ g, g = yy.heap.size := ⟨_, rfl⟩
      refine (show wpPT _ _ _ _ _ _ (yy.alloc (.cells ((headL f t true).map bv).toArray 5)) from ?_)
      have HD := Lib.hid (bts_below HD.out hE)
      have H10 := Lib.hid (bts_below H10.out hE)
      have HC := Lib.hid (HC.out.trans (hE.mono HC.out.size))
      rw [← hg7]
      rw [← hg7] at H7
      generalize yy.alloc (.cells ((headL f t true).map bv).toArray 5) = yyy at *
      clear hK hg7
      clear hE
      refine pt_turn ?_
      refine pt_opcall rfl (by kernel_rfl) (by go_simp; exact ⟨rfl, rfl⟩) ?_
      refine (bytes_any a 8 _ (by omega)).mono ?_
      rintro e yyyy ⟨A13, c13, rfl, hB, -, hE⟩
      have H13 := Lib.hid hB
      refine ⟨_, rfl, hE, ?_⟩
      simp only [Act.put, List.setIfInBounds_toArray, List.set_cons_zero, List.set_cons_succ]
      have HD := Lib.hid (bts_below HD.out hE)
      have H10 := Lib.hid (bts_below H10.out hE)
      have H7 := Lib.hid (bts_below H7.out hE)
      have HC := Lib.hid (HC.out.trans (hE.mono HC.out.size))
      clear hB
      clear hE
      refine pt_turn ?_
      refine pt_opcall rfl (by kernel_rfl) (by go_simp; exact ⟨rfl, rfl⟩) ?_
      refine (bytes_any n 2 _ (by omega)).mono ?_
      rintro e yyyyy ⟨A18, c18, rfl, hB, -, hE⟩
      have H18 := Lib.hid hB
      refine ⟨_, rfl, hE, ?_⟩
      simp only [Act.put, List.setIfInBounds_toArray, List.set_cons_zero, List.set_cons_succ]
      have HD := Lib.hid (bts_below HD.out hE)
      have H10 := Lib.hid (bts_below H10.out hE)
      have H7 := Lib.hid (bts_below H7.out hE)
      have H13 := Lib.hid (bts_below H13.out hE)
      have HC := Lib.hid (HC.out.trans (hE.mono HC.out.size))
      clear hB
      clear hE
      obtain rfl := HL.out
      have hE := Below.alloc (Ext.refl yyyyy) (Nat.le_refl _) (.cells ([.slice (some ⟨g7, 0, none⟩) 5 5, .slice A10 (bytesOf s 8).length c10, .slice A13 (bytesOf a 8).length c13, .slice A18 (bytesOf l.length 2).length c18, .slice A l.length c] : List Value).toArray 23)
      have hG : Blk (yyyyy.alloc (.cells ([.slice (some ⟨g7, 0, none⟩) 5 5, .slice A10 (bytesOf s 8).length c10, .slice A13 (bytesOf a 8).length c13, .slice A18 (bytesOf l.length 2).length c18, .slice A l.length c] : List Value).toArray 23)) yyyyy.heap.size 23 ([.slice (some ⟨g7, 0, none⟩) 5 5, .slice A10 (bytesOf s 8).length c10, .slice A13 (bytesOf a 8).length c13, .slice A18 (bytesOf l.length 2).length c18, .slice A l.length c] : List Value).toArray := Blkf.new_at _ _ _ _ rfl
      have HD := Lib.hid (bts_below HD.out hE)
      have H7 := Lib.hid (bts_below H7.out hE)
      have H10 := Lib.hid (bts_below H10.out hE)
      have H13 := Lib.hid (bts_below H13.out hE)
      have H18 := Lib.hid (bts_below H18.out hE)
      have HC := Lib.hid (HC.out.trans (hE.mono HC.out.size))
      have hBL : BL (yyyyy.alloc (.cells ([.slice (some ⟨g7, 0, none⟩) 5 5, .slice A10 (bytesOf s 8).length c10, .slice A13 (bytesOf a 8).length c13, .slice A18 (bytesOf l.length 2).length c18, .slice A l.length c] : List Value).toArray 23)) [.slice (some ⟨g7, 0, none⟩) 5 5, .slice A10 (bytesOf s 8).length c10, .slice A13 (bytesOf a 8).length c13, .slice A18 (bytesOf l.length 2).length c18, .slice A l.length c] [headL f t true, bytesOf s 8, bytesOf a 8, bytesOf l.length 2, l] := bl5 H7.out H10.out H13.out H18.out HD.out rfl rfl rfl rfl rfl
      have hTT := tot5 f t s a l true
      have HG := Lib.hid hG
      have HBL := Lib.hid hBL
      have HTT := Lib.hid hTT
      clear hE hG hBL hTT H7 H10 H13 H18 HD
      refine pt_turn ?_
      refine pt_op rfl (by kernel_rfl) (fun K2 hK2 => ?_)
      go_simp
      refine hK2 _ _ ⟨(Ext.refl _).alloc (Nat.le_refl _) _, ?_⟩
      try simp only [Act.put, List.setIfInBounds_toArray, List.set_cons_zero, List.set_cons_succ]
      clear hK2
      refine pt_turn ?_
      refine pt_opcall rfl (by kernel_rfl) (by go_simp; exact ⟨rfl, rfl⟩) ?_
      refine (concat_any yyyyy.heap.size [.slice (some ⟨g7, 0, none⟩) 5 5, .slice A10 (bytesOf s 8).length c10, .slice A13 (bytesOf a 8).length c13, .slice A18 (bytesOf l.length 2).length c18, .slice A l.length c] [headL f t true, bytesOf s 8, bytesOf a 8, bytesOf l.length 2, l] _ HG.out HBL.out (show (5 : Nat) ≤ 100 by decide) (by rw [HTT.out]; omega) (by rw [HTT.out]; omega)).mono ?_
      rintro e z ⟨v, rfl, hO, hE⟩
      refine ⟨_, rfl, hE, ?_⟩
      try simp only [Act.put, List.setIfInBounds_toArray, List.set_cons_zero, List.set_cons_succ]
      have HC := Lib.hid (HC.out.trans (hE.mono HC.out.size))
      have HO := Lib.hid hO
      clear hO hE HG HBL
      iterate 1 (refine pt_take (v := ?_) rfl (by kernel_rfl) ?_ ?_; rotate_left; (focus (intro w' hw'; go_simp; try with_reducible rfl)); try simp only [Act.put, List.setIfInBounds_toArray, List.set_cons_zero, List.set_cons_succ])
      refine pt_end ?_
      obtain ⟨AP, cp, rfl, hP, -⟩ := bts_own (l := plainL f t true s a l) HO.out (plain_lt f t s a l true hf ht HB.out.1) rfl
      have HP := Lib.hid hP
      have hln : (plainL f t true s a l).length = 23 + l.length := (totL_flat _).trans HTT.out
      obtain ⟨P, hPe⟩ : ∃ P, P = plainL f t true s a l := ⟨_, rfl⟩
      rw [← hPe] at HP hln
      have HPE := Lib.hid hPe
      clear hP hPe HO HTT HB0 HX
      have HZ : Hid (W.heap.size ≤ z.heap.size) := Lib.hid HC.out.size
      go_wp2_with fail
      rw [← HPE.out]
      refine (seal_any AP P cp _ (by omega) HP.out).mono ?_
      rintro e zz ⟨v2, rfl, ho2, hb2⟩
      have HO2 := Lib.hid (own_mono16 ho2 HZ.out)
      have HB2 := Lib.hid (HC.out.trans (hb2.mono HC.out.size))
      clear ho2 hb2
      go_wp2
      go_ret2
      have h2 := HO2.out
      rw [HPE.out] at h2
      exact ⟨_, rfl, h2, HB2.out⟩
    focus
      refine pt_opcall rfl (by kernel_rfl) (by go_simp; exact ⟨rfl, rfl⟩) ?_
      refine (bytes_any a 8 _ (by omega)).mono ?_
      rintro e yyy ⟨A13, c13, rfl, hB, -, hE⟩
      have H13 := Lib.hid hB
      refine ⟨_, rfl, hE, ?_⟩
      simp only [Act.put, List.setIfInBounds_toArray, List.set_cons_zero, List.set_cons_succ]
      have HD := Lib.hid (bts_below HD.out hE)
      have H10 := Lib.hid (bts_below H10.out hE)
      have HC := Lib.hid (HC.out.trans (hE.mono HC.out.size))
      clear hB
      clear hE
      refine pt_fork ?_ ?_
      focus
        refine pt_op rfl (by kernel_rfl) (fun K hK => ?_)
        go_simp
        refine hK _ _ ⟨(Ext.refl _).alloc (Nat.le_refl _) _, ?_⟩
        try simp only [Act.put, List.setIfInBounds_toArray, List.set_cons_zero, List.set_cons_succ]
        have hE := Below.alloc (Ext.refl yyy) (Nat.le_refl _) (.cells ((headL f t true).map bv).toArray 5)
        have H7 := Lib.hid (bts_lit yyy (0, 0) (headL f t true) (headL_lt f t true hf ht) _ rfl)
        obtain ⟨g7, hg7⟩ : ∃ g, g = yyy.heap.size := ⟨_, rfl⟩
        refine (show wpPT _ _ _ _ _ _ (yyy.alloc (.cells ((headL f t true).map bv).toArray 5)) from ?_)
        have HD := Lib.hid (bts_below HD.out hE)
        have H10 := Lib.hid (bts_below H10.out hE)
        have H13 := Lib.hid (bts_below H13.out hE)
        have HC := Lib.hid (HC.out.trans (hE.mono HC.out.size))
        rw [← hg7]
        rw [← hg7] at H7
        generalize yyy.alloc (.cells ((headL f t true).map bv).toArray 5) = yyyy at *
        clear hK hg7
        clear hE
        refine pt_turn ?_
        refine pt_opcall rfl (by kernel_rfl) (by go_simp; exact ⟨rfl, rfl⟩) ?_
        refine (bytes_any n 2 _ (by omega)).mono ?_
        rintro e yyyyy ⟨A18, c18, rfl, hB, -, hE⟩
        have H18 := Lib.hid hB
        refine ⟨_, rfl, hE, ?_⟩
        simp only [Act.put, List.setIfInBounds_toArray, List.set_cons_zero, List.set_cons_succ]
        have HD := Lib.hid (bts_below HD.out hE)
        have H10 := Lib.hid (bts_below H10.out hE)
        have H13 := Lib.hid (bts_below H13.out hE)
        have H7 := Lib.hid (bts_below H7.out hE)
        have HC := Lib.hid (HC.out.trans (hE.mono HC.out.size))
        clear hB
        clear hE
        obtain rfl := HL.out
        have hE := Below.alloc (Ext.refl yyyyy) (Nat.le_refl _) (.cells ([.slice (some ⟨g7, 0, none⟩) 5 5, .slice A10 (bytesOf s 8).length c10, .slice A13 (bytesOf a 8).length c13, .slice A18 (bytesOf l.length 2).length c18, .slice A l.length c] : List Value).toArray 23)
        have hG : Blk (yyyyy.alloc (.cells ([.slice (some ⟨g7, 0, none⟩) 5 5, .slice A10 (bytesOf s 8).length c10, .slice A13 (bytesOf a 8).length c13, .slice A18 (bytesOf l.length 2).length c18, .slice A l.length c] : List Value).toArray 23)) yyyyy.heap.size 23 ([.slice (some ⟨g7, 0, none⟩) 5 5, .slice A10 (bytesOf s 8).length c10, .slice A13 (bytesOf a 8).length c13, .slice A18 (bytesOf l.length 2).length c18, .slice A l.length c] : List Value).toArray := Blkf.new_at _ _ _ _ rfl
        have HD := Lib.hid (bts_below HD.out hE)
        have H7 := Lib.hid (bts_below H7.out hE)
        have H10 := Lib.hid (bts_below H10.out hE)
        have H13 := Lib.hid (bts_below H13.out hE)
        have H18 := Lib.hid (bts_below H18.out hE)
        have HC := Lib.hid (HC.out.trans (hE.mono HC.out.size))
        have hBL : BL (yyyyy.alloc (.cells ([.slice (some ⟨g7, 0, none⟩) 5 5, .slice A10 (bytesOf s 8).length c10, .slice A13 (bytesOf a 8).length c13, .slice A18 (bytesOf l.length 2).length c18, .slice A l.length c] : List Value).toArray 23)) [.slice (some ⟨g7, 0, none⟩) 5 5, .slice A10 (bytesOf s 8).length c10, .slice A13 (bytesOf a 8).length c13, .slice A18 (bytesOf l.length 2).length c18, .slice A l.length c] [headL f t true, bytesOf s 8, bytesOf a 8, bytesOf l.length 2, l] := bl5 H7.out H10.out H13.out H18.out HD.out rfl rfl rfl rfl rfl
        have hTT := tot5 f t s a l true
        have HG := Lib.hid hG
        have HBL := Lib.hid hBL
        have HTT := Lib.hid hTT
        clear hE hG hBL hTT H7 H10 H13 H18 HD
        refine pt_turn ?_
        refine pt_op rfl (by kernel_rfl) (fun K2 hK2 => ?_)
        go_simp
        refine hK2 _ _ ⟨(Ext.refl _).alloc (Nat.le_refl _) _, ?_⟩
        try simp only [Act.put, List.setIfInBounds_toArray, List.set_cons_zero, List.set_cons_succ]
        clear hK2
        refine pt_turn ?_
        refine pt_opcall rfl (by kernel_rfl) (by go_simp; exact ⟨rfl, rfl⟩) ?_
        refine (concat_any yyyyy.heap.size [.slice (some ⟨g7, 0, none⟩) 5 5, .slice A10 (bytesOf s 8).length c10, .slice A13 (bytesOf a 8).length c13, .slice A18 (bytesOf l.length 2).length c18, .slice A l.length c] [headL f t true, bytesOf s 8, bytesOf a 8, bytesOf l.length 2, l] _ HG.out HBL.out (show (5 : Nat) ≤ 100 by decide) (by rw [HTT.out]; omega) (by rw [HTT.out]; omega)).mono ?_
        rintro e z ⟨v, rfl, hO, hE⟩
        refine ⟨_, rfl, hE, ?_⟩
        try simp only [Act.put, List.setIfInBounds_toArray, List.set_cons_zero, List.set_cons_succ]
        have HC := Lib.hid (HC.out.trans (hE.mono HC.out.size))
        have HO := Lib.hid hO
        clear hO hE HG HBL
        iterate 1 (refine pt_take (v := ?_) rfl (by kernel_rfl) ?_ ?_; rotate_left; (focus (intro w' hw'; go_simp; try with_reducible rfl)); try simp only [Act.put, List.setIfInBounds_toArray, List.set_cons_zero, List.set_cons_succ])
        refine pt_end ?_
        obtain ⟨AP, cp, rfl, hP, -⟩ := bts_own (l := plainL f t true s a l) HO.out (plain_lt f t s a l true hf ht HB.out.1) rfl
        have HP := Lib.hid hP
        have hln : (plainL f t true s a l).length = 23 + l.length := (totL_flat _).trans HTT.out
        obtain ⟨P, hPe⟩ : ∃ P, P = plainL f t true s a l := ⟨_, rfl⟩
        rw [← hPe] at HP hln
        have HPE := Lib.hid hPe
        clear hP hPe HO HTT HB0 HX
        have HZ : Hid (W.heap.size ≤ z.heap.size) := Lib.hid HC.out.size
        go_wp2_with fail
        rw [← HPE.out]
        refine (seal_any AP P cp _ (by omega) HP.out).mono ?_
        rintro e zz ⟨v2, rfl, ho2, hb2⟩
        have HO2 := Lib.hid (own_mono16 ho2 HZ.out)
        have HB2 := Lib.hid (HC.out.trans (hb2.mono HC.out.size))
        clear ho2 hb2
        go_wp2
        go_ret2
        have h2 := HO2.out
        rw [HPE.out] at h2
        exact ⟨_, rfl, h2, HB2.out⟩
      focus
        refine pt_opcall rfl (by kernel_rfl) (by go_simp; exact ⟨rfl, rfl⟩) ?_
        refine (bytes_any n 2 _ (by omega)).mono ?_
        rintro e yyyy ⟨A18, c18, rfl, hB, -, hE⟩
        have H18 := Lib.hid hB
        refine ⟨_, rfl, hE, ?_⟩
        simp only [Act.put, List.setIfInBounds_toArray, List.set_cons_zero, List.set_cons_succ]
        have HD := Lib.hid (bts_below HD.out hE)
        have H10 := Lib.hid (bts_below H10.out hE)
        have H13 := Lib.hid (bts_below H13.out hE)
        have HC := Lib.hid (HC.out.trans (hE.mono HC.out.size))
        clear hB
        clear hE
        refine pt_turn ?_
        refine pt_op rfl (by kernel_rfl) (fun K hK => ?_)
        go_simp
        refine hK _ _ ⟨(Ext.refl _).alloc (Nat.le_refl _) _, ?_⟩
        try simp only [Act.put, List.setIfInBounds_toArray, List.set_cons_zero, List.set_cons_succ]
        have hE := Below.alloc (Ext.refl yyyy) (Nat.le_refl _) (.cells ((headL f t true).map bv).toArray 5)
        have H7 := Lib.hid (bts_lit yyyy (0, 0) (headL f t true) (headL_lt f t true hf ht) _ rfl)
        obtain ⟨g7, hg7⟩ : ∃ g, g = yyyy.heap.size := ⟨_, rfl⟩
        refine (show wpPT _ _ _ _ _ _ (yyyy.alloc (.cells ((headL f t true).map bv).toArray 5)) from ?_)
        have HD := Lib.hid (bts_below HD.out hE)
        have H10 := Lib.hid (bts_below H10.out hE)
        have H13 := Lib.hid (bts_below H13.out hE)
        have H18 := Lib.hid (bts_below H18.out hE)
        have HC := Lib.hid (HC.out.trans (hE.mono HC.out.size))
        rw [← hg7]
        rw [← hg7] at H7
        generalize yyyy.alloc (.cells ((headL f t true).map bv).toArray 5) = yyyyy at *
        clear hK hg7
        clear hE
        obtain rfl := HL.out
        have hE := Below.alloc (Ext.refl yyyyy) (Nat.le_refl _) (.cells ([.slice (some ⟨g7, 0, none⟩) 5 5, .slice A10 (bytesOf s 8).length c10, .slice A13 (bytesOf a 8).length c13, .slice A18 (bytesOf l.length 2).length c18, .slice A l.length c] : List Value).toArray 23)
        have hG : Blk (yyyyy.alloc (.cells ([.slice (some ⟨g7, 0, none⟩) 5 5, .slice A10 (bytesOf s 8).length c10, .slice A13 (bytesOf a 8).length c13, .slice A18 (bytesOf l.length 2).length c18, .slice A l.length c] : List Value).toArray 23)) yyyyy.heap.size 23 ([.slice (some ⟨g7, 0, none⟩) 5 5, .slice A10 (bytesOf s 8).length c10, .slice A13 (bytesOf a 8).length c13, .slice A18 (bytesOf l.length 2).length c18, .slice A l.length c] : List Value).toArray := Blkf.new_at _ _ _ _ rfl
        have HD := Lib.hid (bts_below HD.out hE)
        have H7 := Lib.hid (bts_below H7.out hE)
        have H10 := Lib.hid (bts_below H10.out hE)
        have H13 := Lib.hid (bts_below H13.out hE)
        have H18 := Lib.hid (bts_below H18.out hE)
        have HC := Lib.hid (HC.out.trans (hE.mono HC.out.size))
        have hBL : BL (yyyyy.alloc (.cells ([.slice (some ⟨g7, 0, none⟩) 5 5, .slice A10 (bytesOf s 8).length c10, .slice A13 (bytesOf a 8).length c13, .slice A18 (bytesOf l.length 2).length c18, .slice A l.length c] : List Value).toArray 23)) [.slice (some ⟨g7, 0, none⟩) 5 5, .slice A10 (bytesOf s 8).length c10, .slice A13 (bytesOf a 8).length c13, .slice A18 (bytesOf l.length 2).length c18, .slice A l.length c] [headL f t true, bytesOf s 8, bytesOf a 8, bytesOf l.length 2, l] := bl5 H7.out H10.out H13.out H18.out HD.out rfl rfl rfl rfl rfl
        have hTT := tot5 f t s a l true
        have HG := Lib.hid hG
        have HBL := Lib.hid hBL
        have HTT := Lib.hid hTT
        clear hE hG hBL hTT H7 H10 H13 H18 HD
        refine pt_turn ?_
        refine pt_op rfl (by kernel_rfl) (fun K2 hK2 => ?_)
        go_simp
        refine hK2 _ _ ⟨(Ext.refl _).alloc (Nat.le_refl _) _, ?_⟩
        try simp only [Act.put, List.setIfInBounds_toArray, List.set_cons_zero, List.set_cons_succ]
        clear hK2
        refine pt_turn ?_
        refine pt_opcall rfl (by kernel_rfl) (by go_simp; exact ⟨rfl, rfl⟩) ?_
        refine (concat_any yyyyy.heap.size [.slice (some ⟨g7, 0, none⟩) 5 5, .slice A10 (bytesOf s 8).length c10, .slice A13 (bytesOf a 8).length c13, .slice A18 (bytesOf l.length 2).length c18, .slice A l.length c] [headL f t true, bytesOf s 8, bytesOf a 8, bytesOf l.length 2, l] _ HG.out HBL.out (show (5 : Nat) ≤ 100 by decide) (by rw [HTT.out]; omega) (by rw [HTT.out]; omega)).mono ?_
        rintro e z ⟨v, rfl, hO, hE⟩
        refine ⟨_, rfl, hE, ?_⟩
        try simp only [Act.put, List.setIfInBounds_toArray, List.set_cons_zero, List.set_cons_succ]
        have HC := Lib.hid (HC.out.trans (hE.mono HC.out.size))
        have HO := Lib.hid hO
        clear hO hE HG HBL
        iterate 1 (refine pt_take (v := ?_) rfl (by kernel_rfl) ?_ ?_; rotate_left; (focus (intro w' hw'; go_simp; try with_reducible rfl)); try simp only [Act.put, List.setIfInBounds_toArray, List.set_cons_zero, List.set_cons_succ])
        refine pt_end ?_
        obtain ⟨AP, cp, rfl, hP, -⟩ := bts_own (l := plainL f t true s a l) HO.out (plain_lt f t s a l true hf ht HB.out.1) rfl
        have HP := Lib.hid hP
        have hln : (plainL f t true s a l).length = 23 + l.length := (totL_flat _).trans HTT.out
        obtain ⟨P, hPe⟩ : ∃ P, P = plainL f t true s a l := ⟨_, rfl⟩
        rw [← hPe] at HP hln
        have HPE := Lib.hid hPe
        clear hP hPe HO HTT HB0 HX
        have HZ : Hid (W.heap.size ≤ z.heap.size) := Lib.hid HC.out.size
        go_wp2_with fail
        rw [← HPE.out]
        refine (seal_any AP P cp _ (by omega) HP.out).mono ?_
        rintro e zz ⟨v2, rfl, ho2, hb2⟩
        have HO2 := Lib.hid (own_mono16 ho2 HZ.out)
        have HB2 := Lib.hid (HC.out.trans (hb2.mono HC.out.size))
        clear ho2 hb2
        go_wp2
        go_ret2
        have h2 := HO2.out
        rw [HPE.out] at h2
        exact ⟨_, rfl, h2, HB2.out⟩
end Go.Proofs.Ytidfhdkalnaddaa
