/- PhysPlays, all scripts. -/
import Derived.Test.YtgdebfpepbomiaaPhyS
namespace Go.Proofs.Ytgdebfpepbomiaa
open Go.RowKit

set_option maxHeartbeats 1000000 in
set_option maxRecDepth 20000 in
theorem plays_nil (fr cap : Nat) (a : Option Addr) (W : World) (hf : fr < 256) :
    Calls Try.prog 4 #[.int .u8 (fr : Int), .slice a 0 cap] W fun e w' => e = .returned (.bool true) ∧ Below W.heap.size W w' := by
  have hfi : (fr : Int) < 256 := by omega
  have hmod : (fr : Int) % 4 = ((fr % 4 : Nat) : Int) := by simp
  have HMOD := Lib.hid hmod
  clear hmod
  go_enter Try.func4, Try.ntmps4
  go_wp2_with fail
  refine (first_ok _).mono ?_
  rintro e w0 ⟨rfl, hb⟩
  have HB0 := Lib.hid hb
  clear hb
  go_wp2_with fail
  rw [HMOD.out, show (1 : Int) + ((fr % 4 : Nat) : Int) = ((1 + fr % 4 : Nat) : Int) from rfl]
  have HN : Hid (1 ≤ 1 + fr % 4 ∧ 1 + fr % 4 ≤ 4) := Lib.hid (by omega)
  generalize 1 + fr % 4 = n at *
  refine (new_yes n _ HN.out.1 (by have := HN.out.2; omega)).mono ?_
  rintro e w1 ⟨g, rfl, hm, hb⟩
  have HP0 := Lib.hid (play_start (W := W) (hm.mono (fun b hb' => Nat.le_trans HB0.out.size hb')) (HB0.out.trans (hb.mono HB0.out.size)))
  clear hm hb
  go_wp2_with fail
  refine wp_loop_rounds 1 ?_; rw [rounds_succ]
  go_wp2_with fail
  obtain ⟨F, G, g1, _⟩ := HP0.out
  refine (frames_any g F n emptyS _ g1).mono ?_
  rintro e w ⟨rfl, rfl⟩
  go_wp2_with fail
  go_ret
  exact ⟨rfl, HP0.out.bel⟩
theorem Law.PhysPlays (fr : Int) (a : Option Addr) (len cap : Nat) (W : World) (hf : (Lit.int .u8 fr).wf = true) (hz : IsRows [.int .i64, .int .i64, .int .i64, .int .u64, .int .u64, .ints .u8] W a len cap) (hc : 64 * cap ≤ 140737488351232) :
    Calls Try.prog 4 #[.int .u8 fr, .slice a len cap] W fun e w' => e = .returned (.bool true) ∧ Below W.heap.size W w' := by
  obtain ⟨fr, rfl⟩ := Int.eq_ofNat_of_zero_le (u8_of_wf hf).1
  have hf2 : fr < 256 := by have := (u8_of_wf hf).2; omega
  rcases Nat.eq_zero_or_pos len with rfl | hp
  · exact plays_nil fr cap a W hf2
  · have hl : len ≤ 9223372036854775807 := by
      rcases hz with ⟨_, h, _⟩ | ⟨x, _, h, _⟩
      · omega
      · omega
    obtain ⟨b, o, rfl, hb, hO⟩ := ops_of hz hp
    exact plays_some fr b o len cap W hf2 hb hO hl
end Go.Proofs.Ytgdebfpepbomiaa
