/- entry of a table. -/
import Derived.Test.YtmnpakfihfjfiaaWalkA
import Derived.Test.YtmnpakfihfjfiaaWalkW
import Derived.WalkMore
import Derived.ScopeJumps
namespace Go.Proofs.Ytmnpakfihfjfiaa
open Go.RowKit

def ppnX (x : Nat) : Nat := x / 1024 % 17592186044416
def goodX (x : Nat) : Bool := x / 18014398509481984 == 0 && (bitB x 0 && (bitB x 1 || !bitB x 2))
def leafX (x : Nat) : Bool := bitB x 1 || bitB x 3
def leadX (x l : Nat) : Bool := decide (0 < l) && !bitB x 4 && !bitB x 6 && !bitB x 7
def pteZ : Value := .agg #[.bool false, .bool false, .bool false, .bool false, .bool false, .bool false, .bool false, .bool false, .int .i64 0, .int .u64 0]
def entE (n : Nat) (S : Nat → List Nat) (a : Nat) : Int := if chkE n a 8 = 0 then (if goodX (ldR n S a 8) then 0 else 51) else 61
def entV (n : Nat) (S : Nat → List Nat) (a : Nat) : Value := if entE n S a = 0 then entryV (ldR n S a 8) else pteZ
theorem ppnX_lt (x : Nat) : ppnX x < 17592186044416 := Nat.mod_lt _ (by decide)
theorem Mem.pg_lt {w : World} {g n : Nat} {F : Nat → Prop} {S : Nat → List Nat} (h : Mem w g F n S) (k i : Nat) : (S k).getD i 0 < 256 := by
  obtain ⟨mb, loc, K, h, _⟩ := h
  by_cases hk : k ∈ K
  · exact (h.page k hk).2.1 i
  · rw [h.zero k hk, zeroL_get]; decide
theorem Mem.ld_lt {w : World} {g n : Nat} {F : Nat → Prop} {S : Nat → List Nat} (h : Mem w g F n S) (a : Nat) : ldR n S a 8 < 18446744073709551616 := by
  unfold ldR
  split
  · exact leNat_take_lt _ 8 (getD_drop_lt _ _ (h.pg_lt _))
  · decide
theorem pte_row : rowT Try.prog 36 10 = true := by kernel_rfl
theorem pte_one (x : Nat) : (#[.bool (bitB x 0), .bool (bitB x 1), .bool (bitB x 2), .bool (bitB x 3), .bool (bitB x 4), .bool (bitB x 5), .bool (bitB x 6), .bool (bitB x 7), .int .i64 ((x : Int) / 256 % 4), .int .u64 ((x : Int) / 1024 % 17592186044416)] : Array Value).all (·.oneCell') = true := by simp [Value.oneCell']
theorem zer_one : (#[.bool false, .bool false, .bool false, .bool false, .bool false, .bool false, .bool false, .bool false, .int .i64 0, .int .u64 0] : Array Value).all (·.oneCell') = true := by simp [Value.oneCell']
theorem leaf_row : rowT Try.prog 38 12 = true := by kernel_rfl
set_option maxHeartbeats 1000000 in
theorem entry_any (g n a : Nat) (F : Nat → Prop) (S : Nat → List Nat) (W : World) (h : Mem W g F n S) (ha : a < 18446744073709551616) :
    Calls Try.prog 22 #[.pointer (some ⟨g, 0, none⟩), .int .u64 (a : Int)] W fun e w' => e = .returned (.tuple #[entV n S a, .int .i64 (entE n S a)]) ∧ Below W.heap.size W w' := by
  have HA := Lib.hid ha
  have hX := h.ld_lt a
  have HE : Hid (entE n S a = if chkE n a 8 = 0 then (if goodX (ldR n S a 8) then 0 else 51) else 61) := Lib.hid rfl
  have HV : Hid (entV n S a = if entE n S a = 0 then entryV (ldR n S a 8) else pteZ) := Lib.hid rfl
  have hw : ∃ W1, W1 = W.alloc (.cells #[.bool false, .bool false, .bool false, .bool false, .bool false, .bool false, .bool false, .bool false, .int .i64 0, .int .u64 0] 36) ∧ Blk W1 W.heap.size 36 #[.bool false, .bool false, .bool false, .bool false, .bool false, .bool false, .bool false, .bool false, .int .i64 0, .int .u64 0] ∧ Below W.heap.size W W1 ∧ Mem W1 g F n S :=
    ⟨_, rfl, Blkf.new_at _ _ _ _ rfl, (Below.refl _ _).alloc (Nat.le_refl _) _, h.below ((Below.refl _ _).alloc (Nat.le_refl _) _)⟩
  obtain ⟨W1, hW1, hz, hb1, hm⟩ := hw
  have HZ := Lib.hid hz
  have HB1 := Lib.hid hb1
  have HM := Lib.hid hm
  clear h ha hz hb1 hm
  generalize entV n S a = V at *
  generalize entE n S a = E at *
  go_enter Try.func22, Try.ntmps22
  go_wp2_with fail
  rw [← hW1]
  clear hW1
  refine (Load_any g n a 8 F S _ HM.out HA.out).mono ?_
  rintro e w ⟨rfl, rfl⟩
  have HX : Hid (ldR n S a 8 < 18446744073709551616) := Lib.hid hX
  clear hX
  generalize ldR n S a 8 = x at *
  generalize chkE n a 8 = c at *
  by_cases hc : c = 0
  · subst hc
    rw [if_pos rfl] at HE
    go_wp2_with fail
    refine (get_any x _ HX.out).mono ?_
    rintro e w1 ⟨rfl, hb⟩
    have HG := Lib.hid (HB1.out.trans (hb.mono HB1.out.size))
    have hz1 := HZ.out.below hb HZ.out.lt
    have HZ1 := Lib.hid (hz1.alloc (.cells #[.bool (bitB x 0), .bool (bitB x 1), .bool (bitB x 2), .bool (bitB x 3), .bool (bitB x 4), .bool (bitB x 5), .bool (bitB x 6), .bool (bitB x 7), .int .i64 ((x : Int) / 256 % 4), .int .u64 ((x : Int) / 1024 % 17592186044416)] 36))
    have HB2 := Lib.hid (HG.out.alloc HG.out.size (.cells #[.bool (bitB x 0), .bool (bitB x 1), .bool (bitB x 2), .bool (bitB x 3), .bool (bitB x 4), .bool (bitB x 5), .bool (bitB x 6), .bool (bitB x 7), .int .i64 ((x : Int) / 256 % 4), .int .u64 ((x : Int) / 1024 % 17592186044416)] 36))
    have HP2 := Lib.hid (Blkf.new_at w1 36 (0, 0) #[.bool (bitB x 0), .bool (bitB x 1), .bool (bitB x 2), .bool (bitB x 3), .bool (bitB x 4), .bool (bitB x 5), .bool (bitB x 6), .bool (bitB x 7), .int .i64 ((x : Int) / 256 % 4), .int .u64 ((x : Int) / 1024 % 17592186044416)] rfl)
    clear hb hz1
    have hgx : goodX x = ((x / 18014398509481984 == 0) && (bitB x 0 && (bitB x 1 || !bitB x 2))) := rfl
    rcases Bool.eq_false_or_eq_true (x / 18014398509481984 == 0) with h54 | h54
    · rw [h54] at hgx ⊢
      have HGX := Lib.hid hgx
      clear hgx h54
      go_wp2_with (first | ((with_reducible refine wl_store_new 36 (.tmp 8) (.tmp 22) rfl ?_ w1 (World.heap w1).size 36 #[.bool false, .bool false, .bool false, .bool false, .bool false, .bool false, .bool false, .bool false, .int .i64 0, .int .u64 0] #[.bool (bitB x 0), .bool (bitB x 1), .bool (bitB x 2), .bool (bitB x 3), .bool (bitB x 4), .bool (bitB x 5), .bool (bitB x 6), .bool (bitB x 7), .int .i64 ((x : Int) / 256 % 4), .int .u64 ((x : Int) / 1024 % 17592186044416)] ?_ ?_ ?_ ?_ ?_ ?_ ?_ ?_); exact rfl; exact rfl; exact rfl; exact rfl; exact rfl; exact rfl; exact pte_row; exact pte_one x))
      generalize w1.alloc (.cells #[.bool (bitB x 0), .bool (bitB x 1), .bool (bitB x 2), .bool (bitB x 3), .bool (bitB x 4), .bool (bitB x 5), .bool (bitB x 6), .bool (bitB x 7), .int .i64 ((x : Int) / 256 % 4), .int .u64 ((x : Int) / 1024 % 17592186044416)] 36) = w2 at *
      go_wp2_with (first | ((with_reducible refine wl_load 36 (.tmp 8) rfl ?_ w1.heap.size 0 #[.bool (bitB x 0), .bool (bitB x 1), .bool (bitB x 2), .bool (bitB x 3), .bool (bitB x 4), .bool (bitB x 5), .bool (bitB x 6), .bool (bitB x 7), .int .i64 ((x : Int) / 256 % 4), .int .u64 ((x : Int) / 1024 % 17592186044416)] ?_ HP2.out.range ?_ ?_); exact rfl; exact rfl; exact pte_row))
      refine (right_any _ _ _ _ _ _ _ _ _ _ _).mono ?_
      rintro e w3 ⟨rfl, hb3⟩
      have hgx := HGX.out
      rw [Bool.true_and] at hgx
      rw [← hgx]
      clear hgx
      have HZ3 := Lib.hid (HZ1.out.below hb3 HZ1.out.lt)
      have HB3 := Lib.hid (HB2.out.trans (hb3.mono HB2.out.size))
      have HP3 := Lib.hid (HP2.out.below hb3 HP2.out.lt)
      clear hb3
      rcases Bool.eq_false_or_eq_true (goodX x) with hg1 | hg1
      · rw [hg1] at HE ⊢
        go_wp2_with (first | ((with_reducible refine wl_load 36 (.tmp 8) rfl ?_ w1.heap.size 0 #[.bool (bitB x 0), .bool (bitB x 1), .bool (bitB x 2), .bool (bitB x 3), .bool (bitB x 4), .bool (bitB x 5), .bool (bitB x 6), .bool (bitB x 7), .int .i64 ((x : Int) / 256 % 4), .int .u64 ((x : Int) / 1024 % 17592186044416)] ?_ HP3.out.range ?_ ?_); exact rfl; exact rfl; exact pte_row) | ((with_reducible refine wl_store 36 (.tmp 4) (.tmp 32) rfl ?_ W.heap.size 36 #[.bool false, .bool false, .bool false, .bool false, .bool false, .bool false, .bool false, .bool false, .int .i64 0, .int .u64 0] #[.bool (bitB x 0), .bool (bitB x 1), .bool (bitB x 2), .bool (bitB x 3), .bool (bitB x 4), .bool (bitB x 5), .bool (bitB x 6), .bool (bitB x 7), .int .i64 ((x : Int) / 256 % 4), .int .u64 ((x : Int) / 1024 % 17592186044416)] ?_ ?_ HZ3.out ?_ ?_ ?_ ?_); exact rfl; exact rfl; exact rfl; exact rfl; exact pte_row; exact pte_one x))
        refine bodyPost_ret (res_cell_slot (cs := #[.bool (bitB x 0), .bool (bitB x 1), .bool (bitB x 2), .bool (bitB x 3), .bool (bitB x 4), .bool (bitB x 5), .bool (bitB x 6), .bool (bitB x 7), .int .i64 ((x : Int) / 256 % 4), .int .u64 ((x : Int) / 1024 % 17592186044416)]) (v := .int .i64 0) rfl _ _ W.heap.size 36 rfl rfl (HZ3.out.setRow _) pte_row) rfl ⟨?_, below_setRow HB3.out (Nat.le_refl _) _⟩
        rw [HV.out, HE.out]
        rfl
      · rw [hg1] at HE ⊢
        go_wp2_with (first | ((with_reducible refine wl_store 36 (.tmp 4) (.tmp 31) rfl ?_ W.heap.size 36 #[.bool false, .bool false, .bool false, .bool false, .bool false, .bool false, .bool false, .bool false, .int .i64 0, .int .u64 0] #[.bool false, .bool false, .bool false, .bool false, .bool false, .bool false, .bool false, .bool false, .int .i64 0, .int .u64 0] ?_ ?_ HZ3.out ?_ ?_ ?_ ?_); exact rfl; exact rfl; exact rfl; exact rfl; exact pte_row; exact zer_one))
        refine bodyPost_ret (res_cell_slot (cs := #[.bool false, .bool false, .bool false, .bool false, .bool false, .bool false, .bool false, .bool false, .int .i64 0, .int .u64 0]) (v := .int .i64 51) rfl _ _ W.heap.size 36 rfl rfl (HZ3.out.setRow _) pte_row) rfl ⟨?_, below_setRow HB3.out (Nat.le_refl _) _⟩
        rw [HV.out, HE.out]
        rfl
    · rw [h54] at hgx ⊢
      rw [Bool.false_and] at hgx
      rw [hgx] at HE
      clear hgx h54
      go_wp2_with (first | ((with_reducible refine wl_store 36 (.tmp 4) (.tmp 31) rfl ?_ W.heap.size 36 #[.bool false, .bool false, .bool false, .bool false, .bool false, .bool false, .bool false, .bool false, .int .i64 0, .int .u64 0] #[.bool false, .bool false, .bool false, .bool false, .bool false, .bool false, .bool false, .bool false, .int .i64 0, .int .u64 0] ?_ ?_ HZ1.out ?_ ?_ ?_ ?_); exact rfl; exact rfl; exact rfl; exact rfl; exact pte_row; exact zer_one) | ((with_reducible refine wl_store_new 36 (.tmp 8) (.tmp 22) rfl ?_ w1 (World.heap w1).size 36 #[.bool false, .bool false, .bool false, .bool false, .bool false, .bool false, .bool false, .bool false, .int .i64 0, .int .u64 0] #[.bool (bitB x 0), .bool (bitB x 1), .bool (bitB x 2), .bool (bitB x 3), .bool (bitB x 4), .bool (bitB x 5), .bool (bitB x 6), .bool (bitB x 7), .int .i64 ((x : Int) / 256 % 4), .int .u64 ((x : Int) / 1024 % 17592186044416)] ?_ ?_ ?_ ?_ ?_ ?_ ?_ ?_); exact rfl; exact rfl; exact rfl; exact rfl; exact rfl; exact rfl; exact pte_row; exact pte_one x))
      generalize w1.alloc (.cells #[.bool (bitB x 0), .bool (bitB x 1), .bool (bitB x 2), .bool (bitB x 3), .bool (bitB x 4), .bool (bitB x 5), .bool (bitB x 6), .bool (bitB x 7), .int .i64 ((x : Int) / 256 % 4), .int .u64 ((x : Int) / 1024 % 17592186044416)] 36) = w2 at *
      refine bodyPost_ret (res_cell_slot (cs := #[.bool false, .bool false, .bool false, .bool false, .bool false, .bool false, .bool false, .bool false, .int .i64 0, .int .u64 0]) (v := .int .i64 51) rfl _ _ W.heap.size 36 rfl rfl (HZ1.out.setRow _) pte_row) rfl ⟨?_, below_setRow HB2.out (Nat.le_refl _) _⟩
      rw [HV.out, HE.out]
      rfl
  · rw [if_neg hc] at HE
    have hc2 : (c != 0) = true := by simpa using hc
    go_wp2_with (first | ((with_reducible refine wl_store 36 (.tmp 4) (.tmp 18) rfl ?_ W.heap.size 36 #[.bool false, .bool false, .bool false, .bool false, .bool false, .bool false, .bool false, .bool false, .int .i64 0, .int .u64 0] #[.bool false, .bool false, .bool false, .bool false, .bool false, .bool false, .bool false, .bool false, .int .i64 0, .int .u64 0] ?_ ?_ HZ.out ?_ ?_ ?_ ?_); exact rfl; exact rfl; exact rfl; exact rfl; exact pte_row; exact zer_one))
    refine bodyPost_ret (res_cell_slot (cs := #[.bool false, .bool false, .bool false, .bool false, .bool false, .bool false, .bool false, .bool false, .int .i64 0, .int .u64 0]) (v := .int .i64 61) rfl _ _ W.heap.size 36 rfl rfl (HZ.out.setRow _) pte_row) rfl ⟨?_, below_setRow HB1.out (Nat.le_refl _) _⟩
    rw [HV.out, HE.out]
    rfl
end Go.Proofs.Ytmnpakfihfjfiaa
