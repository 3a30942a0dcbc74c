/- Contracts: Turn, of both sides. -/
import Derived.Test.YtnnajaomajgoeaaCheckE
namespace Go.Proofs.Ytnnajaomajgoeaa
open Go.RowKit

/-- Bytes with one bit turned. -/
def turnL (l : List Nat) (n : Int) : List Nat := if 0 ≤ n ∧ n / 8 < l.length then l.set (n / 8).toNat (l.getD (n / 8).toNat 0 ^^^ 2 ^ (n % 8).toNat) else l
theorem turn_no (A : Option Addr) (l : List Nat) (c : Nat) (n : Int) (W : World) (hn : l.length ≤ 140737488355328) (hB : Bts W A l) (hw : -9223372036854775808 ≤ n ∧ n < 9223372036854775808) (ht : ¬ (0 ≤ n ∧ n / 8 < l.length)) :
    Calls Try.prog 31 #[.slice A l.length c, .int .i64 n] W (RetOwn l W) := by
  have HB := Lib.hid hB
  clear hB
  obtain ⟨w0, w1⟩ := hw
  rcases (show n < 0 ∨ (0 ≤ n ∧ (l.length : Int) ≤ n / 8) by omega) with h | ⟨h, h2⟩
  · have e1 : decide (0 ≤ n) = false := by simp; omega
    clear ht h
    go_enter Try.func31, Try.ntmps31
    go_wp2_with fail
    refine (clone_any A l c _ hn HB.out).mono ?_
    rintro e w1 ⟨v1, rfl, hown, hb⟩
    have HO := Lib.hid hown
    have HW := Lib.hid hb
    clear hown hb
    go_wp2
    go_ret
    exact ⟨v1, rfl, HO.out, HW.out⟩
  · have e1 : decide (0 ≤ n) = true := by simp; omega
    have e2 : decide (n / 8 < (l.length : Int)) = false := by simp; omega
    clear ht
    go_enter Try.func31, Try.ntmps31
    go_wp2_with fail
    refine (clone_any A l c _ hn HB.out).mono ?_
    rintro e w1 ⟨v1, rfl, hown, hb⟩
    obtain ⟨A1, c1, rfl, hB1, hA1⟩ := bts_own hown HB.out.1 rfl
    have HO := Lib.hid hown
    have HW := Lib.hid hb
    clear hown hb hB1 hA1
    go_wp2
    go_ret
    exact ⟨_, rfl, HO.out, HW.out⟩
theorem u8_xor (a b : Nat) (ha : a < 256) (hb : b < 256) : bits .xor .u8 (a : Int) (b : Int) = ((a ^^^ b : Nat) : Int) := by
  have hx : a ^^^ b < 2 ^ 8 := Nat.xor_lt_two_pow (n := 8) ha hb
  have h1 : (BitVec.ofInt 8 (a : Int)).toNat = a := by
    rw [BitVec.ofInt_natCast, BitVec.toNat_ofNat]; exact Nat.mod_eq_of_lt (by omega)
  have h2 : (BitVec.ofInt 8 (b : Int)).toNat = b := by
    rw [BitVec.ofInt_natCast, BitVec.toNat_ofNat]; exact Nat.mod_eq_of_lt (by omega)
  show IntKind.u8.wrap ((BitVec.ofInt 8 (a : Int) ^^^ BitVec.ofInt 8 (b : Int)).toNat : Int) = _
  rw [BitVec.toNat_xor, h1, h2, IntKind.wrap_u8]
  omega
theorem set_bv (l : List Nat) (k x : Nat) : (l.map bv).set k (.int .u8 (x : Int)) = (l.set k x).map bv := by
  rw [List.map_set]; rfl
set_option maxHeartbeats 4000000 in
theorem turn_yes (A : Option Addr) (l : List Nat) (c : Nat) (k j : Nat) (n : Int) (W : World) (hn : l.length ≤ 140737488355328) (hB : Bts W A l) (hnk : n = ((8 * k + j : Nat) : Int)) (hj : j < 8) (hk : k < l.length) :
    Calls Try.prog 31 #[.slice A l.length c, .int .i64 n] W (RetOwn (l.set k (l.getD k 0 ^^^ 2 ^ j)) W) := by
  have HB := Lib.hid hB
  have n0 : 0 ≤ n := by omega
  have n1 : n ≤ 9223372036854775807 := by omega
  have hq : n / 8 = (k : Int) := by omega
  have hr : n % 8 = (j : Int) := by omega
  have ht0 : n.tdiv 8 = (k : Int) := by rw [Int.tdiv_eq_ediv_of_nonneg n0]; exact hq
  have hm0 : n.tmod 8 = (j : Int) := by rw [Int.tmod_eq_emod_of_nonneg n0]; exact hr
  have ht1 : IntKind.i64.wrap (k : Int) = (k : Int) := IntWalk.i64_in _ (by omega)
  have hm1 : IntKind.i64.wrap (j : Int) = (j : Int) := IntWalk.i64_in _ (by omega)
  have hk1 : (k : Int) < (l.length : Int) := by omega
  clear hnk hB
  rcases (show j = 0 ∨ j = 1 ∨ j = 2 ∨ j = 3 ∨ j = 4 ∨ j = 5 ∨ j = 6 ∨ j = 7 by omega) with rfl | rfl | rfl | rfl | rfl | rfl | rfl | rfl
  all_goals
    clear hj
    go_enter Try.func31, Try.ntmps31
    go_wp2_with fail
    refine (clone_any A l c _ hn HB.out).mono ?_
    rintro e w1 ⟨v1, rfl, hown, hb⟩
    obtain ⟨g, cap, hv, _, hlt⟩ := hown.form (by omega)
    subst hv
    have hc : w1.cell? ⟨g, k, none⟩ = some (.int .u8 ((l.getD k 0 : Nat) : Int)) := by
      rw [hown.cellAt k (by omega), List.getElem?_map, List.getD_eq_getElem?_getD, List.getElem?_eq_getElem hk]; rfl
    have hf := hown.frozenAt k
    have hx := HB.out.1 k
    have HO := Lib.hid hown
    have HW := Lib.hid hb
    clear hown hb
    generalize hxe : l.getD k 0 = x at hc hx ⊢
    have HXE := Lib.hid hxe
    have HX := Lib.hid hx
    clear hxe
    go_wp2_with fail
    have hs := fun W' (h : Ext w1.drew W') => (h.cell (p := ⟨g, k, none⟩) hlt).trans hc
    refine wp_region_plan [(0, false), (1, false), (2, false), (3, false), (4, false), (5, false), (6, false), (7, false), (8, false), (9, false), (10, true)] (by kernel_rfl) (by kernel_rfl) (fun _ d _ _ _ h => by cases d <;> exact h) ?_
    iterate 10 (refine plan_take (v := ?_) rfl (by kernel_rfl) ?_ ?_; rotate_left; (focus (intro w' hw'; try go_simp; try with_reducible rfl)); simp only [Act.put, List.setIfInBounds_toArray, List.set_cons_zero, List.set_cons_succ])
    clear hs
    refine plan_last rfl (by kernel_rfl) (by kernel_rfl) (fun K hK => ?_)
    go_simp
    refine hK _ _ ?_
    refine plan_end ?_
    go_wp2
    go_ret
    refine ⟨_, rfl, ?_, (HW.out.drew.setCell (HO.out.lt g rfl).1 _)⟩
    have ho := fun u => (World.ownsRow.stored HO.out k u).1
    rw [HXE.out, ← set_bv, List.length_set]
    first | rw [show IntKind.u8.wrap 1 = ((1 : Nat) : Int) from by decide, u8_xor x 1 HX.out (by decide)] | rw [show IntKind.u8.wrap 2 = ((2 : Nat) : Int) from by decide, u8_xor x 2 HX.out (by decide)] | rw [show IntKind.u8.wrap 4 = ((4 : Nat) : Int) from by decide, u8_xor x 4 HX.out (by decide)] | rw [show IntKind.u8.wrap 8 = ((8 : Nat) : Int) from by decide, u8_xor x 8 HX.out (by decide)] | rw [show IntKind.u8.wrap 16 = ((16 : Nat) : Int) from by decide, u8_xor x 16 HX.out (by decide)] | rw [show IntKind.u8.wrap 32 = ((32 : Nat) : Int) from by decide, u8_xor x 32 HX.out (by decide)] | rw [show IntKind.u8.wrap 64 = ((64 : Nat) : Int) from by decide, u8_xor x 64 HX.out (by decide)] | rw [show IntKind.u8.wrap 128 = ((128 : Nat) : Int) from by decide, u8_xor x 128 HX.out (by decide)]
    exact ho _
theorem turn_any (A : Option Addr) (l : List Nat) (c : Nat) (n : Int) (W : World) (hn : l.length ≤ 140737488355328) (hB : Bts W A l) (hw : -9223372036854775808 ≤ n ∧ n < 9223372036854775808) :
    Calls Try.prog 31 #[.slice A l.length c, .int .i64 n] W (RetOwn (turnL l n) W) := by
  by_cases ht : 0 ≤ n ∧ n / 8 < l.length
  · obtain ⟨h0, h1⟩ := ht
    have h := turn_yes A l c (n / 8).toNat (n % 8).toNat n W hn hB (by omega) (by omega) (by omega)
    unfold turnL
    rw [if_pos ⟨h0, h1⟩]
    exact h
  · unfold turnL
    rw [if_neg ht]
    exact turn_no A l c n W hn hB hw ht
end Go.Proofs.Ytnnajaomajgoeaa
