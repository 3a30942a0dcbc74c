/- PhysMakes. -/
import Derived.Test.YtgdebfpepbomiaaPhyH
namespace Go.Proofs.Ytgdebfpepbomiaa
open Go.RowKit

theorem aligned8 (x : Nat) : alignedB x 8 = (x % 8 == 0) := rfl
theorem i64_wf {x : Int} (h : (Lit.int .i64 x).wf = true) : -9223372036854775808 ≤ x ∧ x < 9223372036854775808 := i64_of_wf h
set_option maxHeartbeats 1000000 in
theorem makes_yes (n : Nat) (at_ : Int) (W : World) (h1 : 1 ≤ n) (h2 : n ≤ 1048576) :
    Calls Try.prog 5 #[.int .i64 (n : Int), .int .u64 at_] W fun e w' => e = .returned (.bool true) ∧ Below W.heap.size W w' := by
  have E1 : Hid (chkE n (4096 * n - 8) 8 = 0) := Lib.hid (by
    unfold chkE
    rw [if_neg (by decide), if_neg (by rw [aligned8, show (4096 * n - 8) % 8 = 0 by omega]; decide), if_neg (by omega)])
  have E2 : Hid (chkE n (4096 * n) 8 = 61) := Lib.hid (by
    unfold chkE
    rw [if_neg (by decide), if_neg (by rw [aligned8, show (4096 * n) % 8 = 0 by omega]; decide), if_pos (by omega)])
  have hw : IntKind.u64.wrap (n : Int) = (n : Int) := by rw [IntKind.wrap_u64]; omega
  have H1 := Lib.hid h1
  have H2 := Lib.hid h2
  have i1 : (1 : Int) ≤ (n : Int) := by omega
  have i2 : (n : Int) ≤ 1048576 := by omega
  clear h1 h2
  go_enter Try.func5, Try.ntmps5
  go_wp2_with fail
  refine (first_ok _).mono ?_
  rintro e w0 ⟨rfl, hb⟩
  have HB0 := Lib.hid hb
  clear hb
  go_wp2_with fail
  refine (new_yes n _ H1.out H2.out).mono ?_
  rintro e w1 ⟨g, rfl, hm, hb⟩
  have HM1 := Lib.hid hm
  have HB1 := Lib.hid (HB0.out.trans (hb.mono HB0.out.size))
  clear hm hb
  go_wp2_with fail
  rw [show 4096 * (n : Int) - 8 = ((4096 * n - 8 : Nat) : Int) by omega]
  refine (Load_any g n (4096 * n - 8) 8 _ _ _ HM1.out (by have := H2.out; omega)).mono ?_
  rintro e w ⟨rfl, rfl⟩
  rw [E1.out]
  generalize ldR n emptyS (4096 * n - 8) 8 = x
  go_wp2_with fail
  rw [show 4096 * (n : Int) = ((4096 * n : Nat) : Int) by omega]
  refine (Load_any g n (4096 * n) 8 _ _ _ HM1.out (by have := H2.out; omega)).mono ?_
  rintro e w ⟨rfl, rfl⟩
  rw [E2.out]
  generalize ldR n emptyS (4096 * n) 8 = y
  go_wp2_with fail
  refine (frames_any g _ n _ _ HM1.out).mono ?_
  rintro e w ⟨rfl, rfl⟩
  go_wp2_with fail
  go_ret
  exact ⟨rfl, HB1.out⟩
set_option maxHeartbeats 1000000 in
theorem makes_no (n at_ : Int) (W : World) (h : n < 1 ∨ 1048576 < n) :
    Calls Try.prog 5 #[.int .i64 n, .int .u64 at_] W fun e w' => e = .returned (.bool true) ∧ Below W.heap.size W w' := by
  have H := Lib.hid h
  rcases h with h | h
  · go_enter Try.func5, Try.ntmps5
    go_wp2_with fail
    refine (first_ok _).mono ?_
    rintro e w0 ⟨rfl, hb⟩
    have HB0 := Lib.hid hb
    clear hb
    go_wp2_with fail
    refine (new_no n _ H.out).mono ?_
    rintro e w ⟨rfl, rfl⟩
    go_wp2_with fail
    refine (Load_nil at_ 8 _).mono ?_
    rintro e w ⟨rfl, rfl⟩
    go_wp2_with fail
    refine (Page_nil 0 _).mono ?_
    rintro e w ⟨rfl, rfl⟩
    go_wp2_with fail
    refine (Swap_nil at_ 1 0 _).mono ?_
    rintro e w ⟨rfl, rfl⟩
    go_wp2_with fail
    refine (Store_nil at_ 8 1 _).mono ?_
    rintro e w ⟨rfl, rfl⟩
    go_wp2_with fail
    refine (SetPage_nil 0 _ _).mono ?_
    rintro e w ⟨rfl, rfl⟩
    go_wp2_with fail
    refine (frames_nil _).mono ?_
    rintro e w ⟨rfl, rfl⟩
    go_wp2_with fail
    go_ret
    exact ⟨rfl, HB0.out⟩
  · have h' : ¬ n < 1 := by omega
    go_enter Try.func5, Try.ntmps5
    go_wp2_with fail
    refine (first_ok _).mono ?_
    rintro e w0 ⟨rfl, hb⟩
    have HB0 := Lib.hid hb
    clear hb
    go_wp2_with fail
    refine (new_no n _ H.out).mono ?_
    rintro e w ⟨rfl, rfl⟩
    go_wp2_with fail
    refine (Load_nil at_ 8 _).mono ?_
    rintro e w ⟨rfl, rfl⟩
    go_wp2_with fail
    refine (Page_nil 0 _).mono ?_
    rintro e w ⟨rfl, rfl⟩
    go_wp2_with fail
    refine (Swap_nil at_ 1 0 _).mono ?_
    rintro e w ⟨rfl, rfl⟩
    go_wp2_with fail
    refine (Store_nil at_ 8 1 _).mono ?_
    rintro e w ⟨rfl, rfl⟩
    go_wp2_with fail
    refine (SetPage_nil 0 _ _).mono ?_
    rintro e w ⟨rfl, rfl⟩
    go_wp2_with fail
    refine (frames_nil _).mono ?_
    rintro e w ⟨rfl, rfl⟩
    go_wp2_with fail
    go_ret
    exact ⟨rfl, HB0.out⟩
theorem Law.PhysMakes (n at_ : Int) (W : World) (hn : (Lit.int .i64 n).wf = true) (_ : (Lit.int .u64 at_).wf = true) :
    Calls Try.prog 5 #[.int .i64 n, .int .u64 at_] W fun e w' => e = .returned (.bool true) ∧ Below W.heap.size W w' := by
  by_cases h : n < 1 ∨ 1048576 < n
  · exact makes_no n at_ W h
  · obtain ⟨n, rfl⟩ := Int.eq_ofNat_of_zero_le (a := n) (by omega)
    exact makes_yes n at_ W (by omega) (by omega)
end Go.Proofs.Ytgdebfpepbomiaa
