/- Walk. -/
import Derived.Test.YtmnpakfihfjfiaaWalkL
import Derived.Test.YtmnpakfihfjfiaaPermH
namespace Go.Proofs.Ytmnpakfihfjfiaa
open Go.RowKit

def checkX (x : Nat) (a : Int) (user sum mxr : Bool) : Bool := checkB (bitB x 0) (bitB x 1) (bitB x 2) (bitB x 3) (bitB x 4) (bitB x 6) (bitB x 7) a user sum mxr
/-- The cause of an access. -/
def wkC (fd : Fd) (a : Int) (user sum mxr : Bool) : Int :=
  match fd with
  | .err e => if e = 61 then causeV a 1 5 7 else causeV a 12 13 15
  | .leaf x _ _ => if checkX x a user sum mxr then -1 else causeV a 12 13 15
def wkV (fd : Fd) (a : Int) (user sum mxr : Bool) : Value :=
  match fd with
  | .err _ => leafZ
  | .leaf x l p => if checkX x a user sum mxr then fdV (.leaf x l p) else leafZ
theorem fdAt_not {n : Nat} {S : Nat → List Nat} {va l t : Nat} {k : Fd} {e : Int} (h : fdAt n S va l t k = .err e) (hk : ∀ e, k = .err e → e = 51 ∨ e = 61) : e = 51 ∨ e = 61 := by
  unfold fdAt at h
  split at h
  · split at h
    · split at h
      · split at h
        · cases h
        · injection h with h; omega
      · split at h
        · exact hk e h
        · injection h with h; omega
    · injection h with h; omega
  · injection h with h; omega
theorem findF_not {n : Nat} {S : Nat → List Nat} {va : Nat} {e : Int} : ∀ {l t : Nat}, findF n S va l t = .err e → e = 51 ∨ e = 61
  | 0, t, h => fdAt_not h (fun e h => by injection h with h; omega)
  | l + 1, t, h => fdAt_not h (fun e h => findF_not h)
theorem findW_not {n : Nat} {S : Nat → List Nat} {on : Bool} {ppn va : Nat} {e : Int} (h : findW n S on ppn va = .err e) : e = 2 ∨ e = 51 ∨ e = 61 := by
  unfold findW at h
  split at h
  · split at h
    · exact .inr (findF_not h)
    · injection h with h; omega
  · injection h with h; omega
set_option maxHeartbeats 2000000 in
theorem walk_any (g n va ppn : Nat) (asid a : Int) (on user sum mxr : Bool) (F : Nat → Prop) (S : Nat → List Nat) (W : World) (h : Mem W g F n S) (hv : va < 18446744073709551616) (hp : ppn < 18446744073709551616) :
    Calls Try.prog 7 #[.pointer (some ⟨g, 0, none⟩), .agg #[.bool on, .int .i64 asid, .int .u64 (ppn : Int)], .int .u64 (va : Int), .int .i64 a, .agg #[.bool user, .bool sum, .bool mxr]] W fun e w' =>
      e = .returned (.tuple #[wkV (findW n S on ppn va) a user sum mxr, .int .i64 (wkC (findW n S on ppn va) a user sum mxr)]) ∧ Below W.heap.size W w' := by
  have HV := Lib.hid hv
  have HP := Lib.hid hp
  have HA : Hid (∃ W3, W3 = ((W.alloc (.cells #[.bool on, .int .i64 asid, .int .u64 (ppn : Int)] 31)).alloc (.cells #[.bool user, .bool sum, .bool mxr] 34)).alloc (.cells #[.bool false, .bool false, .bool false, .bool false, .bool false, .bool false, .bool false, .bool false, .int .i64 0, .int .u64 0, .int .i64 0, .int .u64 0] 38) ∧ Blk W3 W.heap.size 31 #[.bool on, .int .i64 asid, .int .u64 (ppn : Int)] ∧ Blk W3 (W.heap.size + 1) 34 #[.bool user, .bool sum, .bool mxr] ∧ Blk W3 (W.heap.size + 1 + 1) 38 #[.bool false, .bool false, .bool false, .bool false, .bool false, .bool false, .bool false, .bool false, .int .i64 0, .int .u64 0, .int .i64 0, .int .u64 0] ∧ Below W.heap.size W W3 ∧ Mem W3 g F n S) := by
    have hb : Below W.heap.size W (((W.alloc (.cells #[.bool on, .int .i64 asid, .int .u64 (ppn : Int)] 31)).alloc (.cells #[.bool user, .bool sum, .bool mxr] 34)).alloc (.cells #[.bool false, .bool false, .bool false, .bool false, .bool false, .bool false, .bool false, .bool false, .int .i64 0, .int .u64 0, .int .i64 0, .int .u64 0] 38)) := (((Below.refl _ _).alloc (Nat.le_refl _) _).alloc (by simp) _).alloc (by simp; omega) _
    exact Lib.hid ⟨_, rfl, ((Blkf.new_at _ _ _ _ (by simp)).alloc _).alloc _, (Blkf.new_at _ _ _ _ (by simp)).alloc _, Blkf.new_at _ _ _ _ (by simp), hb, h.below hb⟩
  clear h hv hp
  obtain ⟨fd, hfd⟩ : ∃ fd, fd = findW n S on ppn va := ⟨_, rfl⟩
  have HF := Lib.hid hfd
  rw [← hfd]
  clear hfd
  go_enter Try.func7, Try.ntmps7
  go_wp2_with fail
  obtain ⟨W3, hW3, hs, hmo, hz, hb3, hm3⟩ := HA.out
  rw [← hW3]
  clear hW3 HA
  have HMO := Lib.hid hmo
  have HZ := Lib.hid hz
  have HB := Lib.hid hb3
  have HM := Lib.hid hm3
  clear hs hmo hz hb3 hm3
  refine (Find_any g n va ppn asid on F S _ HM.out HV.out HP.out).mono ?_
  rintro e w2 ⟨rfl, hb2⟩
  rw [← HF.out]
  have hz2 := HZ.out.below hb2 HZ.out.lt
  have hb4 := HB.out.trans (hb2.mono HB.out.size)
  have hmo2 := HMO.out.below hb2 HMO.out.lt
  clear hb2
  cases fd with
  | err e =>
    have HEE := Lib.hid (findW_not HF.out.symm)
    have HZ2 := Lib.hid (hz2.alloc (.cells #[.bool false, .bool false, .bool false, .bool false, .bool false, .bool false, .bool false, .bool false, .int .i64 0, .int .u64 0, .int .i64 0, .int .u64 0] 38))
    have HB2 := Lib.hid (hb4.alloc hb4.size (.cells #[.bool false, .bool false, .bool false, .bool false, .bool false, .bool false, .bool false, .bool false, .int .i64 0, .int .u64 0, .int .i64 0, .int .u64 0] 38))
    clear hz2 hb4 hmo2 HF
    rw [show fdV (.err e) = .agg #[.bool false, .bool false, .bool false, .bool false, .bool false, .bool false, .bool false, .bool false, .int .i64 0, .int .u64 0, .int .i64 0, .int .u64 0] from rfl, show fdE (.err e) = e from rfl]
    by_cases h61 : e = 61
    · subst h61
      go_wp2_with (first | ((with_reducible refine wl_store_new 38 (.tmp 12) (.tmp 19) rfl ?_ w2 (World.heap w2).size 38 #[.bool false, .bool false, .bool false, .bool false, .bool false, .bool false, .bool false, .bool false, .int .i64 0, .int .u64 0, .int .i64 0, .int .u64 0] #[.bool false, .bool false, .bool false, .bool false, .bool false, .bool false, .bool false, .bool false, .int .i64 0, .int .u64 0, .int .i64 0, .int .u64 0] ?_ ?_ ?_ ?_ ?_ ?_ ?_ ?_); exact rfl; exact rfl; exact rfl; exact rfl; exact rfl; exact rfl; exact leaf_row; exact lzer_one))
      generalize w2.alloc (.cells #[.bool false, .bool false, .bool false, .bool false, .bool false, .bool false, .bool false, .bool false, .int .i64 0, .int .u64 0, .int .i64 0, .int .u64 0] 38) = w5 at *
      go_wp2_with fail
      refine (bound_any a _).mono ?_
      rintro e w6 ⟨rfl, rfl⟩
      have HZ6 := Lib.hid (HZ2.out.alloc (.cells #[.int .i64 1, .int .i64 5, .int .i64 7] 84))
      have HB6 := Lib.hid (HB2.out.alloc HB2.out.size (.cells #[.int .i64 1, .int .i64 5, .int .i64 7] 84))
      go_wp2_with (first | ((with_reducible refine wl_store 38 (.tmp 10) (.tmp 24) rfl ?_ (W.heap.size + 1 + 1) 38 #[.bool false, .bool false, .bool false, .bool false, .bool false, .bool false, .bool false, .bool false, .int .i64 0, .int .u64 0, .int .i64 0, .int .u64 0] #[.bool false, .bool false, .bool false, .bool false, .bool false, .bool false, .bool false, .bool false, .int .i64 0, .int .u64 0, .int .i64 0, .int .u64 0] ?_ ?_ HZ6.out ?_ ?_ ?_ ?_); exact rfl; exact rfl; exact rfl; exact rfl; exact leaf_row; exact lzer_one))
      refine bodyPost_ret (res_cell_slot (cs := #[.bool false, .bool false, .bool false, .bool false, .bool false, .bool false, .bool false, .bool false, .int .i64 0, .int .u64 0, .int .i64 0, .int .u64 0]) (v := .int .i64 (causeV a 1 5 7)) rfl _ _ (W.heap.size + 1 + 1) 38 rfl rfl (HZ6.out.setRow _) leaf_row) rfl ⟨?_, below_setRow HB6.out (by omega) _⟩
      simp [wkV, wkC, leafZ]
    · have h1 : (e == 61) = false := by simpa using h61
      have h0 : (e != 0) = true := by have := HEE.out; simp; omega
      have HNE := Lib.hid h61
      clear h61
      go_wp2_with (first | ((with_reducible refine wl_store_new 38 (.tmp 12) (.tmp 19) rfl ?_ w2 (World.heap w2).size 38 #[.bool false, .bool false, .bool false, .bool false, .bool false, .bool false, .bool false, .bool false, .int .i64 0, .int .u64 0, .int .i64 0, .int .u64 0] #[.bool false, .bool false, .bool false, .bool false, .bool false, .bool false, .bool false, .bool false, .int .i64 0, .int .u64 0, .int .i64 0, .int .u64 0] ?_ ?_ ?_ ?_ ?_ ?_ ?_ ?_); exact rfl; exact rfl; exact rfl; exact rfl; exact rfl; exact rfl; exact leaf_row; exact lzer_one))
      generalize w2.alloc (.cells #[.bool false, .bool false, .bool false, .bool false, .bool false, .bool false, .bool false, .bool false, .int .i64 0, .int .u64 0, .int .i64 0, .int .u64 0] 38) = w5 at *
      go_wp2_with fail
      refine (page_any a _).mono ?_
      rintro e w6 ⟨rfl, rfl⟩
      have HZ6 := Lib.hid (HZ2.out.alloc (.cells #[.int .i64 12, .int .i64 13, .int .i64 15] 84))
      have HB6 := Lib.hid (HB2.out.alloc HB2.out.size (.cells #[.int .i64 12, .int .i64 13, .int .i64 15] 84))
      go_wp2_with (first | ((with_reducible refine wl_store 38 (.tmp 10) (.tmp 38) rfl ?_ (W.heap.size + 1 + 1) 38 #[.bool false, .bool false, .bool false, .bool false, .bool false, .bool false, .bool false, .bool false, .int .i64 0, .int .u64 0, .int .i64 0, .int .u64 0] #[.bool false, .bool false, .bool false, .bool false, .bool false, .bool false, .bool false, .bool false, .int .i64 0, .int .u64 0, .int .i64 0, .int .u64 0] ?_ ?_ HZ6.out ?_ ?_ ?_ ?_); exact rfl; exact rfl; exact rfl; exact rfl; exact leaf_row; exact lzer_one))
      refine bodyPost_ret (res_cell_slot (cs := #[.bool false, .bool false, .bool false, .bool false, .bool false, .bool false, .bool false, .bool false, .int .i64 0, .int .u64 0, .int .i64 0, .int .u64 0]) (v := .int .i64 (causeV a 12 13 15)) rfl _ _ (W.heap.size + 1 + 1) 38 rfl rfl (HZ6.out.setRow _) leaf_row) rfl ⟨?_, below_setRow HB6.out (by omega) _⟩
      simp [wkV, wkC, leafZ, HNE.out]
  | leaf x l p =>
    have HZ2 := Lib.hid (hz2.alloc (.cells #[.bool (bitB x 0), .bool (bitB x 1), .bool (bitB x 2), .bool (bitB x 3), .bool (bitB x 4), .bool (bitB x 5), .bool (bitB x 6), .bool (bitB x 7), .int .i64 ((x : Int) / 256 % 4), .int .u64 ((x : Int) / 1024 % 17592186044416), .int .i64 (l : Int), .int .u64 (p : Int)] 38))
    have HB2 := Lib.hid (hb4.alloc hb4.size (.cells #[.bool (bitB x 0), .bool (bitB x 1), .bool (bitB x 2), .bool (bitB x 3), .bool (bitB x 4), .bool (bitB x 5), .bool (bitB x 6), .bool (bitB x 7), .int .i64 ((x : Int) / 256 % 4), .int .u64 ((x : Int) / 1024 % 17592186044416), .int .i64 (l : Int), .int .u64 (p : Int)] 38))
    have HMO2 := Lib.hid (hmo2.alloc (.cells #[.bool (bitB x 0), .bool (bitB x 1), .bool (bitB x 2), .bool (bitB x 3), .bool (bitB x 4), .bool (bitB x 5), .bool (bitB x 6), .bool (bitB x 7), .int .i64 ((x : Int) / 256 % 4), .int .u64 ((x : Int) / 1024 % 17592186044416), .int .i64 (l : Int), .int .u64 (p : Int)] 38))
    have HLB := Lib.hid (Blkf.new_at w2 38 (0, 0) #[.bool (bitB x 0), .bool (bitB x 1), .bool (bitB x 2), .bool (bitB x 3), .bool (bitB x 4), .bool (bitB x 5), .bool (bitB x 6), .bool (bitB x 7), .int .i64 ((x : Int) / 256 % 4), .int .u64 ((x : Int) / 1024 % 17592186044416), .int .i64 (l : Int), .int .u64 (p : Int)] rfl)
    clear hz2 hb4 hmo2 HF
    rw [show fdV (.leaf x l p) = .agg #[.bool (bitB x 0), .bool (bitB x 1), .bool (bitB x 2), .bool (bitB x 3), .bool (bitB x 4), .bool (bitB x 5), .bool (bitB x 6), .bool (bitB x 7), .int .i64 ((x : Int) / 256 % 4), .int .u64 ((x : Int) / 1024 % 17592186044416), .int .i64 (l : Int), .int .u64 (p : Int)] from rfl, show fdE (.leaf x l p) = 0 from rfl]
    obtain ⟨m0, m1, m2⟩ := mode_cells HMO2.out
    go_wp2_with (first | ((with_reducible refine wl_store_new 38 (.tmp 12) (.tmp 19) rfl ?_ w2 (World.heap w2).size 38 #[.bool false, .bool false, .bool false, .bool false, .bool false, .bool false, .bool false, .bool false, .int .i64 0, .int .u64 0, .int .i64 0, .int .u64 0] #[.bool (bitB x 0), .bool (bitB x 1), .bool (bitB x 2), .bool (bitB x 3), .bool (bitB x 4), .bool (bitB x 5), .bool (bitB x 6), .bool (bitB x 7), .int .i64 ((x : Int) / 256 % 4), .int .u64 ((x : Int) / 1024 % 17592186044416), .int .i64 (l : Int), .int .u64 (p : Int)] ?_ ?_ ?_ ?_ ?_ ?_ ?_ ?_); exact rfl; exact rfl; exact rfl; exact rfl; exact rfl; exact rfl; exact leaf_row; exact el_one x l p))
    generalize w2.alloc (.cells #[.bool (bitB x 0), .bool (bitB x 1), .bool (bitB x 2), .bool (bitB x 3), .bool (bitB x 4), .bool (bitB x 5), .bool (bitB x 6), .bool (bitB x 7), .int .i64 ((x : Int) / 256 % 4), .int .u64 ((x : Int) / 1024 % 17592186044416), .int .i64 (l : Int), .int .u64 (p : Int)] 38) = w5 at *
    generalize w2.heap.size = lb at *
    refine (perm_check_any _ _ _ _ _ _ _ _ _ _ _ _ _ _ _).mono ?_
    rintro e w6 ⟨rfl, hb6⟩
    rw [show checkB (bitB x 0) (bitB x 1) (bitB x 2) (bitB x 3) (bitB x 4) (bitB x 6) (bitB x 7) a user sum mxr = checkX x a user sum mxr from rfl]
    have HZ6 := Lib.hid (HZ2.out.below hb6 HZ2.out.lt)
    have HB6 := Lib.hid (HB2.out.trans (hb6.mono HB2.out.size))
    have HLB6 := Lib.hid (HLB.out.below hb6 HLB.out.lt)
    clear hb6 m0 m1 m2
    have HCK : Hid (checkX x a user sum mxr = checkX x a user sum mxr) := Lib.hid rfl
    rcases Bool.eq_false_or_eq_true (checkX x a user sum mxr) with hck | hck
    · rw [hck]
      replace HCK := Lib.hid hck
      clear hck
      go_wp2_with (first | ((with_reducible refine wl_load 38 (.tmp 12) rfl ?_ lb 0 #[.bool (bitB x 0), .bool (bitB x 1), .bool (bitB x 2), .bool (bitB x 3), .bool (bitB x 4), .bool (bitB x 5), .bool (bitB x 6), .bool (bitB x 7), .int .i64 ((x : Int) / 256 % 4), .int .u64 ((x : Int) / 1024 % 17592186044416), .int .i64 (l : Int), .int .u64 (p : Int)] ?_ HLB6.out.range ?_ ?_); exact rfl; exact rfl; exact leaf_row) | ((with_reducible refine wl_store 38 (.tmp 10) (.tmp 41) rfl ?_ (W.heap.size + 1 + 1) 38 #[.bool false, .bool false, .bool false, .bool false, .bool false, .bool false, .bool false, .bool false, .int .i64 0, .int .u64 0, .int .i64 0, .int .u64 0] #[.bool (bitB x 0), .bool (bitB x 1), .bool (bitB x 2), .bool (bitB x 3), .bool (bitB x 4), .bool (bitB x 5), .bool (bitB x 6), .bool (bitB x 7), .int .i64 ((x : Int) / 256 % 4), .int .u64 ((x : Int) / 1024 % 17592186044416), .int .i64 (l : Int), .int .u64 (p : Int)] ?_ ?_ HZ6.out ?_ ?_ ?_ ?_); exact rfl; exact rfl; exact rfl; exact rfl; exact leaf_row; exact el_one x l p))
      refine bodyPost_ret (res_cell_slot (cs := #[.bool (bitB x 0), .bool (bitB x 1), .bool (bitB x 2), .bool (bitB x 3), .bool (bitB x 4), .bool (bitB x 5), .bool (bitB x 6), .bool (bitB x 7), .int .i64 ((x : Int) / 256 % 4), .int .u64 ((x : Int) / 1024 % 17592186044416), .int .i64 (l : Int), .int .u64 (p : Int)]) (v := .int .i64 (-1)) rfl _ _ (W.heap.size + 1 + 1) 38 rfl rfl (HZ6.out.setRow _) leaf_row) rfl ⟨?_, below_setRow HB6.out (by omega) _⟩
      simp [wkV, wkC, fdV, HCK.out]
    · rw [hck]
      replace HCK := Lib.hid hck
      clear hck
      go_wp2_with fail
      refine (page_any a _).mono ?_
      rintro e w7 ⟨rfl, rfl⟩
      have HZ7 := Lib.hid (HZ6.out.alloc (.cells #[.int .i64 12, .int .i64 13, .int .i64 15] 84))
      have HB7 := Lib.hid (HB6.out.alloc HB6.out.size (.cells #[.int .i64 12, .int .i64 13, .int .i64 15] 84))
      go_wp2_with (first | ((with_reducible refine wl_store 38 (.tmp 10) (.tmp 38) rfl ?_ (W.heap.size + 1 + 1) 38 #[.bool false, .bool false, .bool false, .bool false, .bool false, .bool false, .bool false, .bool false, .int .i64 0, .int .u64 0, .int .i64 0, .int .u64 0] #[.bool false, .bool false, .bool false, .bool false, .bool false, .bool false, .bool false, .bool false, .int .i64 0, .int .u64 0, .int .i64 0, .int .u64 0] ?_ ?_ HZ7.out ?_ ?_ ?_ ?_); exact rfl; exact rfl; exact rfl; exact rfl; exact leaf_row; exact lzer_one))
      refine bodyPost_ret (res_cell_slot (cs := #[.bool false, .bool false, .bool false, .bool false, .bool false, .bool false, .bool false, .bool false, .int .i64 0, .int .u64 0, .int .i64 0, .int .u64 0]) (v := .int .i64 (causeV a 12 13 15)) rfl _ _ (W.heap.size + 1 + 1) 38 rfl rfl (HZ7.out.setRow _) leaf_row) rfl ⟨?_, below_setRow HB7.out (by omega) _⟩
      simp [wkV, wkC, leafZ, HCK.out]
end Go.Proofs.Ytmnpakfihfjfiaa
