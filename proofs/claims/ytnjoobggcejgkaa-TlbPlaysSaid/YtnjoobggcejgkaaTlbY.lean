/- TlbPlays: buffers of any sets and ways answer every script as the reference does. -/
import Derived.Test.YtnjoobggcejgkaaTlbX
namespace Go.Proofs.Ytnjoobggcejgkaa
open Go.RowKit

set_option maxRecDepth 100000 in
set_option maxHeartbeats 4000000 in
theorem plays_no (s m : Int) (A : Option Addr) (len cap : Nat) (W : World) (hr : rightS s m = false) :
    Calls Try.prog 3 #[.int .i64 s, .int .i64 m, .slice A len cap] W fun e w' => e = .returned (.bool true) ∧ Below W.heap.size W w' := by
  have HRT := Lib.hid hr
  clear hr
  go_enter Try.func3, Try.ntmps3
  go_wp2_with fail
  refine (first_ok _).mono ?_
  rintro e w0 ⟨rfl, hb⟩
  have HB0 := Lib.hid hb
  clear hb
  go_wp2_with fail
  refine (new_no s m _ HRT.out).mono ?_
  rintro e w1 ⟨rfl, rfl⟩
  go_wp2_with fail
  refine (right_any s m _).mono ?_
  rintro e w2 ⟨rfl, hb2⟩
  rw [HRT.out]
  have HB2 := Lib.hid (HB0.out.trans (hb2.mono HB0.out.size))
  clear hb2 HB0
  go_wp2_with fail
  refine (find_nil 0 0 _).mono ?_
  rintro e w3 ⟨rfl, hb3⟩
  rw [show ((none : Option Lf).getD lf0).val = .agg lf0.cs from rfl, show (none : Option Lf).isSome = false from rfl]
  have HB3 := Lib.hid ((HB2.out.trans (hb3.mono HB2.out.size)).alloc (HB2.out.trans (hb3.mono HB2.out.size)).size (.cells lf0.cs 33))
  clear hb3 HB2
  go_wp2_with (first | ((with_reducible refine wl_store_new 33 (.tmp 10) (.tmp 36) rfl ?_ w3 (World.heap w3).size 33 lf0.cs lf0.cs ?_ ?_ ?_ ?_ ?_ ?_ ?_ ?_); exact rfl; exact rfl; exact rfl; exact rfl; exact rfl; exact rfl; exact leaf_row lf0; exact lcs_one lf0))
  generalize w3.alloc (.cells lf0.cs 33) = w4 at *
  go_wp2_with fail
  refine (fill_nil 0 0 lf0 0 _).mono ?_
  rintro e w5 ⟨rfl, hb5⟩
  have HB5 := Lib.hid (HB3.out.trans (hb5.mono HB3.out.size))
  clear hb5 HB3
  go_wp2_with fail
  refine (fence_nil _ _ _).mono ?_
  rintro e w6 ⟨rfl, rfl⟩
  go_wp2_with fail
  refine (len_nil _).mono ?_
  rintro e w6 ⟨rfl, rfl⟩
  go_wp2_with fail
  refine (list_nil _).mono ?_
  rintro e w6 ⟨rfl, rfl⟩
  go_wp2_with fail
  go_ret
  exact ⟨rfl, HB5.out⟩
theorem Law.TlbPlays (s m : Int) (a : Option Addr) (len cap : Nat) (W : World) (_ : (Lit.int .i64 s).wf = true) (_ : (Lit.int .i64 m).wf = true) (hz : IsRows [.int .i64, .int .i64, .int .i64, .int .u64, .bool, .bool, .bool, .bool, .bool, .bool, .bool, .bool, .int .i64, .int .u64, .int .i64, .int .u64] W a len cap) (hc : 72 * cap ≤ 140737488351232) :
    Calls Try.prog 3 #[.int .i64 s, .int .i64 m, .slice a len cap] W fun e w' => e = .returned (.bool true) ∧ Below W.heap.size W w' := by
  have hl : len ≤ 9223372036854775807 := by
    rcases hz with ⟨_, h, _⟩ | ⟨x, _, h, _⟩ <;> omega
  cases hr : rightS s m with
  | false => exact plays_no s m a len cap W hr
  | true =>
    have h1 : 0 ≤ s ∧ 0 ≤ m := by
      unfold rightS at hr
      simp only [Bool.and_eq_true, decide_eq_true_eq] at hr
      obtain ⟨h1, h2, h3⟩ := hr
      have : ¬ (s < 1 ∨ 64 < s) := fun h4 => by rw [pow_not h4] at h1; cases h1
      omega
    obtain ⟨s, rfl⟩ := Int.eq_ofNat_of_zero_le h1.1
    obtain ⟨m, rfl⟩ := Int.eq_ofNat_of_zero_le h1.2
    exact plays_yes s m a len cap W hr (fun hp => ops_of hz hp) hl
end Go.Proofs.Ytnjoobggcejgkaa
