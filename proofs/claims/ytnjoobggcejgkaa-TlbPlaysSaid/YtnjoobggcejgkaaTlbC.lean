/- The reference's Page. -/
import Derived.Test.YtnjoobggcejgkaaTlbB
namespace Go.Proofs.Ytnjoobggcejgkaa
open Go.RowKit

theorem index_lt (va : Nat) (n : Int) : indexV va n < 512 := by
  unfold indexV
  split
  · exact fieldV_lt va _ 9
  · decide
theorem pg_2 (va : Nat) : indexV va 2 = pgN va 2 := by
  rw [pgN2]
  show va / 2 ^ 30 % 2 ^ 9 = _
  unfold vpnV
  omega
theorem pg_1 (va : Nat) : 512 * indexV va 2 + indexV va 1 = pgN va 1 := by
  rw [pgN1]
  show 512 * (va / 2 ^ 30 % 2 ^ 9) + va / 2 ^ 21 % 2 ^ 9 = _
  unfold vpnV
  omega
theorem pg_0 (va : Nat) : 512 * (512 * indexV va 2 + indexV va 1) + indexV va 0 = pgN va 0 := by
  rw [pgN0]
  show 512 * (512 * (va / 2 ^ 30 % 2 ^ 9) + va / 2 ^ 21 % 2 ^ 9) + va / 2 ^ 12 % 2 ^ 9 = _
  unfold vpnV
  omega
set_option maxHeartbeats 1000000 in
theorem rpage_any (va : Nat) (lev : Int) (W : World) (hv : va < 18446744073709551616) (hl : levOK lev = true) :
    Calls Try.prog 23 #[.int .u64 va, .int .i64 lev] W fun e w' => e = .returned (.int .u64 ((pgN va lev : Nat) : Int)) ∧ Below W.heap.size W w' := by
  rcases lev_cases hl with rfl | rfl | rfl
  · skip
    go_enter Try.func23, Try.ntmps23
    go_wp2_with fail
    refine wp_loop_rounds 4 ?_
    rw [rounds_succ]
    go_wp2_with fail
    refine (rindex_any va 2 _ hv).mono ?_
    rintro e w0 ⟨rfl, hb0⟩
    have HB0 := Lib.hid hb0
    clear hb0
    have hx2 := index_lt va 2
    generalize hi2 : indexV va 2 = x2 at *
    have HI2 := Lib.hid hi2
    clear hi2
    go_wp2_with fail
    rw [rounds_succ]
    go_wp2_with fail
    refine (rindex_any va 1 _ hv).mono ?_
    rintro e w1 ⟨rfl, hb1⟩
    have HB1 := Lib.hid (HB0.out.trans (hb1.mono HB0.out.size))
    clear hb1
    have hx1 := index_lt va 1
    generalize hi1 : indexV va 1 = x1 at *
    have HI1 := Lib.hid hi1
    clear hi1
    go_wp2_with fail
    rw [rounds_succ]
    go_wp2_with fail
    refine (rindex_any va 0 _ hv).mono ?_
    rintro e w2 ⟨rfl, hb2⟩
    have HB2 := Lib.hid (HB1.out.trans (hb2.mono HB1.out.size))
    clear hb2
    have hx0 := index_lt va 0
    generalize hi0 : indexV va 0 = x0 at *
    have HI0 := Lib.hid hi0
    clear hi0
    go_wp2_with fail
    rw [rounds_succ]
    go_wp2
    go_ret
    exact ⟨by rw [← pg_0, HI2.out, HI1.out, HI0.out]; simp, HB2.out⟩
  · skip
    go_enter Try.func23, Try.ntmps23
    go_wp2_with fail
    refine wp_loop_rounds 3 ?_
    rw [rounds_succ]
    go_wp2_with fail
    refine (rindex_any va 2 _ hv).mono ?_
    rintro e w0 ⟨rfl, hb0⟩
    have HB0 := Lib.hid hb0
    clear hb0
    have hx2 := index_lt va 2
    generalize hi2 : indexV va 2 = x2 at *
    have HI2 := Lib.hid hi2
    clear hi2
    go_wp2_with fail
    rw [rounds_succ]
    go_wp2_with fail
    refine (rindex_any va 1 _ hv).mono ?_
    rintro e w1 ⟨rfl, hb1⟩
    have HB1 := Lib.hid (HB0.out.trans (hb1.mono HB0.out.size))
    clear hb1
    have hx1 := index_lt va 1
    generalize hi1 : indexV va 1 = x1 at *
    have HI1 := Lib.hid hi1
    clear hi1
    go_wp2_with fail
    rw [rounds_succ]
    go_wp2
    go_ret
    exact ⟨by rw [← pg_1, HI2.out, HI1.out]; simp, HB1.out⟩
  · skip
    go_enter Try.func23, Try.ntmps23
    go_wp2_with fail
    refine wp_loop_rounds 2 ?_
    rw [rounds_succ]
    go_wp2_with fail
    refine (rindex_any va 2 _ hv).mono ?_
    rintro e w0 ⟨rfl, hb0⟩
    have HB0 := Lib.hid hb0
    clear hb0
    have hx2 := index_lt va 2
    generalize hi2 : indexV va 2 = x2 at *
    have HI2 := Lib.hid hi2
    clear hi2
    go_wp2_with fail
    rw [rounds_succ]
    go_wp2
    go_ret
    exact ⟨by rw [← pg_2, HI2.out]; rfl, HB0.out⟩
end Go.Proofs.Ytnjoobggcejgkaa
