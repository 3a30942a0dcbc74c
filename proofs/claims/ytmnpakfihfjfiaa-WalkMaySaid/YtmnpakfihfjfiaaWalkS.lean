/- The reference's Find and Walk. -/
import Derived.Test.YtmnpakfihfjfiaaWalkN
import Derived.Test.YtmnpakfihfjfiaaWalkI
namespace Go.Proofs.Ytmnpakfihfjfiaa
open Go.RowKit

theorem rfind_off (p : Option Addr) (va : Nat) (asid ppn : Int) (W : World) :
    Calls Try.prog 17 #[.pointer p, .agg #[.bool false, .int .i64 asid, .int .u64 ppn], .int .u64 (va : Int)] W fun e w' => e = .returned (.tuple #[leafZ, .int .i64 2]) ∧ Below W.heap.size W w' := by
  go_enter Try.func17, Try.ntmps17
  go_wp2_with fail
  refine bodyPost_ret (v := .tuple #[leafZ, .int .i64 2]) (by simp [leafZ, results, Try.results17, go_sem]) rfl ⟨rfl, by go_grown⟩
theorem rfind_non (p : Option Addr) (va : Nat) (asid ppn : Int) (W : World) (hv : va < 18446744073709551616) (hc : canonB va = false) :
    Calls Try.prog 17 #[.pointer p, .agg #[.bool true, .int .i64 asid, .int .u64 ppn], .int .u64 (va : Int)] W fun e w' => e = .returned (.tuple #[leafZ, .int .i64 51]) ∧ Below W.heap.size W w' := by
  have HV := Lib.hid hv
  have HC := Lib.hid hc
  clear hv hc
  go_enter Try.func17, Try.ntmps17
  go_wp2_with fail
  refine (rcanon_any va _ HV.out).mono ?_
  rintro e w' ⟨rfl, rfl⟩
  rw [HC.out]
  go_wp2_with fail
  refine bodyPost_ret (v := .tuple #[leafZ, .int .i64 51]) (by simp [leafZ, results, Try.results17, go_sem]) rfl ⟨rfl, by go_grown⟩
theorem rFind_any (xb n va ppn : Nat) (asid : Int) (on : Bool) (G : Nat → Prop) (L : List (Nat × Nat)) (S : Nat → List Nat) (W : World) (hn : n ≤ 1048576) (hL : L.length ≤ 900000) (hlv : ∀ x ∈ L, x.2 < 256) (h : RefAt W xb G n L) (hr : Rel n L S) (hv : va < 18446744073709551616) (hp : ppn < 18446744073709551616) :
    Calls Try.prog 17 #[.pointer (some ⟨xb, 0, none⟩), .agg #[.bool on, .int .i64 asid, .int .u64 (ppn : Int)], .int .u64 (va : Int)] W fun e w' =>
      e = .returned (.tuple #[fdV (findW n S on ppn va), .int .i64 (fdE (findW n S on ppn va))]) ∧ Below W.heap.size W w' := by
  unfold findW
  cases on with
  | false => exact rfind_off _ va asid ppn W
  | true =>
    cases hc : canonB va with
    | false => exact rfind_non _ va asid ppn W hv hc
    | true => exact rfind_on xb n va ppn asid G L S W hn hL hlv h hr hv hp hc
set_option maxHeartbeats 2000000 in
theorem rwalk_any (xb n va ppn : Nat) (asid a : Int) (on user sum mxr : Bool) (G : Nat → Prop) (L : List (Nat × Nat)) (S : Nat → List Nat) (W : World) (hn : n ≤ 1048576) (hL : L.length ≤ 900000) (hlv : ∀ x ∈ L, x.2 < 256) (h : RefAt W xb G n L) (hr : Rel n L S) (hv : va < 18446744073709551616) (hp : ppn < 18446744073709551616) :
    Calls Try.prog 8 #[.pointer (some ⟨xb, 0, none⟩), .agg #[.bool on, .int .i64 asid, .int .u64 (ppn : Int)], .int .u64 (va : Int), .int .i64 a, .agg #[.bool user, .bool sum, .bool mxr]] W fun e w' =>
      e = .returned (.tuple #[wkV (findW n S on ppn va) a user sum mxr, .int .i64 (wkC (findW n S on ppn va) a user sum mxr)]) ∧ Below W.heap.size W w' := by
  have HV := Lib.hid hv
  have HP := Lib.hid hp
  have HN := Lib.hid hn
  have HL := Lib.hid hL
  have HLV := Lib.hid hlv
  have HRL := Lib.hid hr
  have HA : Hid (∃ W3, W3 = ((W.alloc (.cells #[.bool on, .int .i64 asid, .int .u64 (ppn : Int)] 31)).alloc (.cells #[.bool user, .bool sum, .bool mxr] 34)).alloc (.cells #[.bool false, .bool false, .bool false, .bool false, .bool false, .bool false, .bool false, .bool false, .int .i64 0, .int .u64 0, .int .i64 0, .int .u64 0] 38) ∧ Blk W3 W.heap.size 31 #[.bool on, .int .i64 asid, .int .u64 (ppn : Int)] ∧ Blk W3 (W.heap.size + 1) 34 #[.bool user, .bool sum, .bool mxr] ∧ Blk W3 (W.heap.size + 1 + 1) 38 #[.bool false, .bool false, .bool false, .bool false, .bool false, .bool false, .bool false, .bool false, .int .i64 0, .int .u64 0, .int .i64 0, .int .u64 0] ∧ Below W.heap.size W W3 ∧ RefAt W3 xb G n L) := by
    have hb : Below W.heap.size W (((W.alloc (.cells #[.bool on, .int .i64 asid, .int .u64 (ppn : Int)] 31)).alloc (.cells #[.bool user, .bool sum, .bool mxr] 34)).alloc (.cells #[.bool false, .bool false, .bool false, .bool false, .bool false, .bool false, .bool false, .bool false, .int .i64 0, .int .u64 0, .int .i64 0, .int .u64 0] 38)) := (((Below.refl _ _).alloc (Nat.le_refl _) _).alloc (by simp) _).alloc (by simp; omega) _
    exact Lib.hid ⟨_, rfl, ((Blkf.new_at _ _ _ _ (by simp)).alloc _).alloc _, (Blkf.new_at _ _ _ _ (by simp)).alloc _, Blkf.new_at _ _ _ _ (by simp), hb, h.below hb⟩
  clear h hv hp hn hL hlv hr
  obtain ⟨fd, hfd⟩ : ∃ fd, fd = findW n S on ppn va := ⟨_, rfl⟩
  have HF := Lib.hid hfd
  rw [← hfd]
  clear hfd
  go_enter Try.func8, Try.ntmps8
  go_wp2_with fail
  obtain ⟨W3, hW3, hs, hmo, hz, hb3, hm3⟩ := HA.out
  rw [← hW3]
  clear hW3 HA
  have HMO := Lib.hid hmo
  have HZ := Lib.hid hz
  have HB := Lib.hid hb3
  have HM := Lib.hid hm3
  obtain ⟨m0, m1, m2⟩ := mode_cells hs
  clear hs hmo hz hb3 hm3
  go_wp2_with fail
  clear m0 m1 m2
  refine (rFind_any xb n va ppn asid on G L S _ HN.out HL.out HLV.out HM.out HRL.out HV.out HP.out).mono ?_
  rintro e w2 ⟨rfl, hb2⟩
  rw [← HF.out]
  have hz2 := HZ.out.below hb2 HZ.out.lt
  have hb4 := HB.out.trans (hb2.mono HB.out.size)
  have hmo2 := HMO.out.below hb2 HMO.out.lt
  clear hb2
  cases fd with
  | err e =>
    have HEE := Lib.hid (findW_not HF.out.symm)
    have HZ2 := Lib.hid (hz2.alloc (.cells #[.bool false, .bool false, .bool false, .bool false, .bool false, .bool false, .bool false, .bool false, .int .i64 0, .int .u64 0, .int .i64 0, .int .u64 0] 38))
    have HB2 := Lib.hid (hb4.alloc hb4.size (.cells #[.bool false, .bool false, .bool false, .bool false, .bool false, .bool false, .bool false, .bool false, .int .i64 0, .int .u64 0, .int .i64 0, .int .u64 0] 38))
    clear hz2 hb4 hmo2 HF
    rw [show fdV (.err e) = .agg #[.bool false, .bool false, .bool false, .bool false, .bool false, .bool false, .bool false, .bool false, .int .i64 0, .int .u64 0, .int .i64 0, .int .u64 0] from rfl, show fdE (.err e) = e from rfl]
    by_cases h61 : e = 61
    · subst h61
      go_wp2_with (first | ((with_reducible refine wl_store_new 38 (.tmp 12) (.tmp 19) rfl ?_ w2 (World.heap w2).size 38 #[.bool false, .bool false, .bool false, .bool false, .bool false, .bool false, .bool false, .bool false, .int .i64 0, .int .u64 0, .int .i64 0, .int .u64 0] #[.bool false, .bool false, .bool false, .bool false, .bool false, .bool false, .bool false, .bool false, .int .i64 0, .int .u64 0, .int .i64 0, .int .u64 0] ?_ ?_ ?_ ?_ ?_ ?_ ?_ ?_); exact rfl; exact rfl; exact rfl; exact rfl; exact rfl; exact rfl; exact leaf_row; exact lzer_one))
      generalize hw5 : w2.alloc (.cells #[.bool false, .bool false, .bool false, .bool false, .bool false, .bool false, .bool false, .bool false, .int .i64 0, .int .u64 0, .int .i64 0, .int .u64 0] 38) = w5 at *
      have HS5 : Hid (w2.heap.size + 1 = w5.heap.size) := Lib.hid (by rw [← hw5]; simp)
      clear hw5
      go_wp2_with fail
      generalize hw6 : w5.alloc (.cells #[.int .i64 1, .int .i64 5, .int .i64 7] 3) = w6 at *
      have HC6 : Hid (Blk w6 (w2.heap.size + 1) 3 #[.int .i64 1, .int .i64 5, .int .i64 7]) := Lib.hid (by rw [← hw6]; exact Blkf.new_at _ _ _ _ HS5.out)
      have HZ6 := Lib.hid (HZ2.out.alloc (.cells #[.int .i64 1, .int .i64 5, .int .i64 7] 3))
      have HB6 := Lib.hid (HB2.out.alloc HB2.out.size (.cells #[.int .i64 1, .int .i64 5, .int .i64 7] 3))
      rw [hw6] at HZ6 HB6
      clear hw6
      refine (rcause_any a 1 5 7 (w2.heap.size + 1) 3 w6 (HC6.out.cell 0) (HC6.out.cell 1) (HC6.out.cell 2)).mono ?_
      rintro e w7 ⟨rfl, rfl⟩
      go_wp2_with (first | ((with_reducible refine wl_store 38 (.tmp 10) (.tmp 23) rfl ?_ (W.heap.size + 1 + 1) 38 #[.bool false, .bool false, .bool false, .bool false, .bool false, .bool false, .bool false, .bool false, .int .i64 0, .int .u64 0, .int .i64 0, .int .u64 0] #[.bool false, .bool false, .bool false, .bool false, .bool false, .bool false, .bool false, .bool false, .int .i64 0, .int .u64 0, .int .i64 0, .int .u64 0] ?_ ?_ HZ6.out ?_ ?_ ?_ ?_); exact rfl; exact rfl; exact rfl; exact rfl; exact leaf_row; exact lzer_one))
      refine bodyPost_ret (res_cell_slot (cs := #[.bool false, .bool false, .bool false, .bool false, .bool false, .bool false, .bool false, .bool false, .int .i64 0, .int .u64 0, .int .i64 0, .int .u64 0]) (v := .int .i64 (causeV a 1 5 7)) rfl _ _ (W.heap.size + 1 + 1) 38 rfl rfl (HZ6.out.setRow _) leaf_row) rfl ⟨?_, below_setRow HB6.out (by omega) _⟩
      simp [wkV, wkC, leafZ]
    · have h1 : (e == 61) = false := by simpa using h61
      have h0 : (e != 0) = true := by have := HEE.out; simp; omega
      have HNE := Lib.hid h61
      clear h61
      go_wp2_with (first | ((with_reducible refine wl_store_new 38 (.tmp 12) (.tmp 19) rfl ?_ w2 (World.heap w2).size 38 #[.bool false, .bool false, .bool false, .bool false, .bool false, .bool false, .bool false, .bool false, .int .i64 0, .int .u64 0, .int .i64 0, .int .u64 0] #[.bool false, .bool false, .bool false, .bool false, .bool false, .bool false, .bool false, .bool false, .int .i64 0, .int .u64 0, .int .i64 0, .int .u64 0] ?_ ?_ ?_ ?_ ?_ ?_ ?_ ?_); exact rfl; exact rfl; exact rfl; exact rfl; exact rfl; exact rfl; exact leaf_row; exact lzer_one))
      generalize hw5 : w2.alloc (.cells #[.bool false, .bool false, .bool false, .bool false, .bool false, .bool false, .bool false, .bool false, .int .i64 0, .int .u64 0, .int .i64 0, .int .u64 0] 38) = w5 at *
      have HS5 : Hid (w2.heap.size + 1 = w5.heap.size) := Lib.hid (by rw [← hw5]; simp)
      clear hw5
      go_wp2_with fail
      generalize hw6 : w5.alloc (.cells #[.int .i64 12, .int .i64 13, .int .i64 15] 3) = w6 at *
      have HC6 : Hid (Blk w6 (w2.heap.size + 1) 3 #[.int .i64 12, .int .i64 13, .int .i64 15]) := Lib.hid (by rw [← hw6]; exact Blkf.new_at _ _ _ _ HS5.out)
      have HZ6 := Lib.hid (HZ2.out.alloc (.cells #[.int .i64 12, .int .i64 13, .int .i64 15] 3))
      have HB6 := Lib.hid (HB2.out.alloc HB2.out.size (.cells #[.int .i64 12, .int .i64 13, .int .i64 15] 3))
      rw [hw6] at HZ6 HB6
      clear hw6
      refine (rcause_any a 12 13 15 (w2.heap.size + 1) 3 w6 (HC6.out.cell 0) (HC6.out.cell 1) (HC6.out.cell 2)).mono ?_
      rintro e w7 ⟨rfl, rfl⟩
      go_wp2_with (first | ((with_reducible refine wl_store 38 (.tmp 10) (.tmp 37) rfl ?_ (W.heap.size + 1 + 1) 38 #[.bool false, .bool false, .bool false, .bool false, .bool false, .bool false, .bool false, .bool false, .int .i64 0, .int .u64 0, .int .i64 0, .int .u64 0] #[.bool false, .bool false, .bool false, .bool false, .bool false, .bool false, .bool false, .bool false, .int .i64 0, .int .u64 0, .int .i64 0, .int .u64 0] ?_ ?_ HZ6.out ?_ ?_ ?_ ?_); exact rfl; exact rfl; exact rfl; exact rfl; exact leaf_row; exact lzer_one))
      refine bodyPost_ret (res_cell_slot (cs := #[.bool false, .bool false, .bool false, .bool false, .bool false, .bool false, .bool false, .bool false, .int .i64 0, .int .u64 0, .int .i64 0, .int .u64 0]) (v := .int .i64 (causeV a 12 13 15)) rfl _ _ (W.heap.size + 1 + 1) 38 rfl rfl (HZ6.out.setRow _) leaf_row) rfl ⟨?_, below_setRow HB6.out (by omega) _⟩
      simp [wkV, wkC, leafZ, HNE.out]
  | leaf x l p =>
    have HZ2 := Lib.hid (hz2.alloc (.cells #[.bool (bitB x 0), .bool (bitB x 1), .bool (bitB x 2), .bool (bitB x 3), .bool (bitB x 4), .bool (bitB x 5), .bool (bitB x 6), .bool (bitB x 7), .int .i64 ((x : Int) / 256 % 4), .int .u64 ((x : Int) / 1024 % 17592186044416), .int .i64 (l : Int), .int .u64 (p : Int)] 38))
    have HB2 := Lib.hid (hb4.alloc hb4.size (.cells #[.bool (bitB x 0), .bool (bitB x 1), .bool (bitB x 2), .bool (bitB x 3), .bool (bitB x 4), .bool (bitB x 5), .bool (bitB x 6), .bool (bitB x 7), .int .i64 ((x : Int) / 256 % 4), .int .u64 ((x : Int) / 1024 % 17592186044416), .int .i64 (l : Int), .int .u64 (p : Int)] 38))
    have HMO2 := Lib.hid (hmo2.alloc (.cells #[.bool (bitB x 0), .bool (bitB x 1), .bool (bitB x 2), .bool (bitB x 3), .bool (bitB x 4), .bool (bitB x 5), .bool (bitB x 6), .bool (bitB x 7), .int .i64 ((x : Int) / 256 % 4), .int .u64 ((x : Int) / 1024 % 17592186044416), .int .i64 (l : Int), .int .u64 (p : Int)] 38))
    have HLB := Lib.hid (Blkf.new_at w2 38 (0, 0) #[.bool (bitB x 0), .bool (bitB x 1), .bool (bitB x 2), .bool (bitB x 3), .bool (bitB x 4), .bool (bitB x 5), .bool (bitB x 6), .bool (bitB x 7), .int .i64 ((x : Int) / 256 % 4), .int .u64 ((x : Int) / 1024 % 17592186044416), .int .i64 (l : Int), .int .u64 (p : Int)] rfl)
    clear hz2 hb4 hmo2 HF
    rw [show fdV (.leaf x l p) = .agg #[.bool (bitB x 0), .bool (bitB x 1), .bool (bitB x 2), .bool (bitB x 3), .bool (bitB x 4), .bool (bitB x 5), .bool (bitB x 6), .bool (bitB x 7), .int .i64 ((x : Int) / 256 % 4), .int .u64 ((x : Int) / 1024 % 17592186044416), .int .i64 (l : Int), .int .u64 (p : Int)] from rfl, show fdE (.leaf x l p) = 0 from rfl]
    obtain ⟨m0, m1, m2⟩ := mode_cells HMO2.out
    go_wp2_with (first | ((with_reducible refine wl_store_new 38 (.tmp 12) (.tmp 19) rfl ?_ w2 (World.heap w2).size 38 #[.bool false, .bool false, .bool false, .bool false, .bool false, .bool false, .bool false, .bool false, .int .i64 0, .int .u64 0, .int .i64 0, .int .u64 0] #[.bool (bitB x 0), .bool (bitB x 1), .bool (bitB x 2), .bool (bitB x 3), .bool (bitB x 4), .bool (bitB x 5), .bool (bitB x 6), .bool (bitB x 7), .int .i64 ((x : Int) / 256 % 4), .int .u64 ((x : Int) / 1024 % 17592186044416), .int .i64 (l : Int), .int .u64 (p : Int)] ?_ ?_ ?_ ?_ ?_ ?_ ?_ ?_); exact rfl; exact rfl; exact rfl; exact rfl; exact rfl; exact rfl; exact leaf_row; exact el_one x l p))
    generalize w2.alloc (.cells #[.bool (bitB x 0), .bool (bitB x 1), .bool (bitB x 2), .bool (bitB x 3), .bool (bitB x 4), .bool (bitB x 5), .bool (bitB x 6), .bool (bitB x 7), .int .i64 ((x : Int) / 256 % 4), .int .u64 ((x : Int) / 1024 % 17592186044416), .int .i64 (l : Int), .int .u64 (p : Int)] 38) = w5 at *
    generalize w2.heap.size = lb at *
    refine (perm_rcheck_any _ _ _ _ _ _ _ _ _ _ _ _ _ _ _).mono ?_
    rintro e w6 ⟨rfl, hb6⟩
    rw [show checkB (bitB x 0) (bitB x 1) (bitB x 2) (bitB x 3) (bitB x 4) (bitB x 6) (bitB x 7) a user sum mxr = checkX x a user sum mxr from rfl]
    have HZ6 := Lib.hid (HZ2.out.below hb6 HZ2.out.lt)
    have HB6 := Lib.hid (HB2.out.trans (hb6.mono HB2.out.size))
    have HLB6 := Lib.hid (HLB.out.below hb6 HLB.out.lt)
    clear hb6 m0 m1 m2
    rcases Bool.eq_false_or_eq_true (checkX x a user sum mxr) with hck | hck
    · rw [hck]
      have HCK := Lib.hid hck
      clear hck
      go_wp2_with (first | ((with_reducible refine wl_load 38 (.tmp 12) rfl ?_ lb 0 #[.bool (bitB x 0), .bool (bitB x 1), .bool (bitB x 2), .bool (bitB x 3), .bool (bitB x 4), .bool (bitB x 5), .bool (bitB x 6), .bool (bitB x 7), .int .i64 ((x : Int) / 256 % 4), .int .u64 ((x : Int) / 1024 % 17592186044416), .int .i64 (l : Int), .int .u64 (p : Int)] ?_ HLB6.out.range ?_ ?_); exact rfl; exact rfl; exact leaf_row) | ((with_reducible refine wl_store 38 (.tmp 10) (.tmp 41) rfl ?_ (W.heap.size + 1 + 1) 38 #[.bool false, .bool false, .bool false, .bool false, .bool false, .bool false, .bool false, .bool false, .int .i64 0, .int .u64 0, .int .i64 0, .int .u64 0] #[.bool (bitB x 0), .bool (bitB x 1), .bool (bitB x 2), .bool (bitB x 3), .bool (bitB x 4), .bool (bitB x 5), .bool (bitB x 6), .bool (bitB x 7), .int .i64 ((x : Int) / 256 % 4), .int .u64 ((x : Int) / 1024 % 17592186044416), .int .i64 (l : Int), .int .u64 (p : Int)] ?_ ?_ HZ6.out ?_ ?_ ?_ ?_); exact rfl; exact rfl; exact rfl; exact rfl; exact leaf_row; exact el_one x l p))
      refine bodyPost_ret (res_cell_slot (cs := #[.bool (bitB x 0), .bool (bitB x 1), .bool (bitB x 2), .bool (bitB x 3), .bool (bitB x 4), .bool (bitB x 5), .bool (bitB x 6), .bool (bitB x 7), .int .i64 ((x : Int) / 256 % 4), .int .u64 ((x : Int) / 1024 % 17592186044416), .int .i64 (l : Int), .int .u64 (p : Int)]) (v := .int .i64 (-1)) rfl _ _ (W.heap.size + 1 + 1) 38 rfl rfl (HZ6.out.setRow _) leaf_row) rfl ⟨?_, below_setRow HB6.out (by omega) _⟩
      simp [wkV, wkC, fdV, HCK.out]
    · rw [hck]
      have HCK := Lib.hid hck
      clear hck HLB6
      go_wp2_with fail
      generalize hw8 : w6.alloc (.cells #[.int .i64 12, .int .i64 13, .int .i64 15] 3) = w8 at *
      have HC8 : Hid (Blk w8 w6.heap.size 3 #[.int .i64 12, .int .i64 13, .int .i64 15]) := Lib.hid (by rw [← hw8]; exact Blkf.new_at _ _ _ _ rfl)
      have HZ8 := Lib.hid (HZ6.out.alloc (.cells #[.int .i64 12, .int .i64 13, .int .i64 15] 3))
      have HB8 := Lib.hid (HB6.out.alloc HB6.out.size (.cells #[.int .i64 12, .int .i64 13, .int .i64 15] 3))
      rw [hw8] at HZ8 HB8
      clear hw8
      refine (rcause_any a 12 13 15 w6.heap.size 3 w8 (HC8.out.cell 0) (HC8.out.cell 1) (HC8.out.cell 2)).mono ?_
      rintro e w7 ⟨rfl, rfl⟩
      go_wp2_with (first | ((with_reducible refine wl_store 38 (.tmp 10) (.tmp 37) rfl ?_ (W.heap.size + 1 + 1) 38 #[.bool false, .bool false, .bool false, .bool false, .bool false, .bool false, .bool false, .bool false, .int .i64 0, .int .u64 0, .int .i64 0, .int .u64 0] #[.bool false, .bool false, .bool false, .bool false, .bool false, .bool false, .bool false, .bool false, .int .i64 0, .int .u64 0, .int .i64 0, .int .u64 0] ?_ ?_ HZ8.out ?_ ?_ ?_ ?_); exact rfl; exact rfl; exact rfl; exact rfl; exact leaf_row; exact lzer_one))
      refine bodyPost_ret (res_cell_slot (cs := #[.bool false, .bool false, .bool false, .bool false, .bool false, .bool false, .bool false, .bool false, .int .i64 0, .int .u64 0, .int .i64 0, .int .u64 0]) (v := .int .i64 (causeV a 12 13 15)) rfl _ _ (W.heap.size + 1 + 1) 38 rfl rfl (HZ8.out.setRow _) leaf_row) rfl ⟨?_, below_setRow HB8.out (by omega) _⟩
      simp [wkV, wkC, leafZ, HCK.out]
theorem PS.rwalk {W w : World} {gm xb n : Nat} {L : List (Nat × Nat)} {S : Nat → List Nat} {loc : List (Nat × TypeId × Array Value)} (h : PS W gm xb n L S loc w) (hr : Rel n L S) (hn : n ≤ 200) (va ppn : Nat) (asid a : Int) (on user sum mxr : Bool) (hv : va < 18446744073709551616) (hp : ppn < 18446744073709551616) :
    Calls Try.prog 8 #[.pointer (some ⟨xb, 0, none⟩), .agg #[.bool on, .int .i64 asid, .int .u64 (ppn : Int)], .int .u64 (va : Int), .int .i64 a, .agg #[.bool user, .bool sum, .bool mxr]] w fun e w' =>
      e = .returned (.tuple #[.agg (wkL (findW n S on ppn va) a user sum mxr).cs, .int .i64 (wkC (findW n S on ppn va) a user sum mxr)]) ∧ PS W gm xb n L S loc w' := by
  obtain ⟨F, G, g1, g2, _⟩ := h.play
  exact (rwalk_any xb n va ppn asid a on user sum mxr G L S w (by omega) (by have := hr.short; omega) hr.b g2 hr hv hp).mono fun e w' ⟨h1, h2⟩ => ⟨by rw [h1, wkV_cs], h.step h2⟩
end Go.Proofs.Ytmnpakfihfjfiaa
