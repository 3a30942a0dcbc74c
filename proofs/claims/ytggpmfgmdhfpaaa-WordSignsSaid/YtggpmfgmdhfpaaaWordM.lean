/- The walk of the law WordSigns. -/
import Derived.Test.YtggpmfgmdhfpaaaWordL
import Derived.Deep.RegionWith
namespace Go.Proofs.Ytggpmfgmdhfpaaa
open Go.RowKit Go.ChangeShapes

theorem beq_refl_bytes (s : ByteArray) : (s.toList == s.toList) = true := by simp

namespace Law
set_option maxHeartbeats 2000000 in
theorem WordSigns (a0 : Int) (a1 : Int) (w0 : (Lit.int .u64 a0).wf = true) (_w1 : (Lit.int .i64 a1).wf = true) (w : World) :
    Calls Try.prog 5 #[.int .u64 a0, .int .i64 a1] w fun e w' => e = .returned (.bool true) ∧ Below w.heap.size w w' := by
  obtain ⟨v0, v1⟩ := u64_of_wf w0
  obtain ⟨v, rfl⟩ := Int.eq_ofNat_of_zero_le v0
  have HV := Lib.hid (show v < 18446744073709551616 by omega)
  clear w0 _w1 v0 v1
  go_enter Try.func5, Try.ntmps5
  go_wp2_with fail
  refine (first_ok _).mono ?_
  rintro e w1 ⟨rfl, hb1⟩
  have HB1 := Lib.hid hb1
  clear hb1
  go_wp2_with fail
  go_region_with (first
    | (go_at_call 14; refine (cut_any _ _ _ HV.out).mono ?_; rintro e w' ⟨rfl, rfl⟩)
    | (go_at_call 15; refine (rcut_any _ _ _ HV.out).mono ?_; rintro e w2 ⟨rfl, hb2⟩; have HB2 := Lib.hid hb2; clear hb2)
    | (go_at_call 16; refine (sign_any _ _ _ HV.out).mono ?_; rintro e w' ⟨rfl, rfl⟩)
    | (go_at_call 17; refine (rsign_any _ _ _ HV.out).mono ?_; rintro e w3 ⟨rfl, hb3⟩; have HB3 := Lib.hid hb3; clear hb3)
    | (go_at_call 18; refine (bytes_any _ _ _ HV.out).mono ?_; rintro e w4 ⟨A, c, rfl, hB, hA, hb4⟩; have hcv := conv_bts (c := c) hB rfl; have HB4 := Lib.hid hb4; have HBB := Lib.hid hB; clear hB hA hb4)
    | (go_at_call 13; refine (rbytes_any _ _ _ HV.out).mono ?_; rintro e w5 ⟨b, rfl, hown, hb5⟩; obtain ⟨A2, c2, rfl, hB2, hA2⟩ := bts_own hown (bytesOf_lt v a1) rfl; have hcv2 := conv_bts (c := c2) hB2 rfl; have hcv3 := conv_bts (c := c) (bts_below HBB.out hb5) rfl; have HB5 := Lib.hid hb5; clear hB2 hA2 hb5 hown))
  all_goals
    go_wp2
    go_ret
    refine ⟨by first | rfl | (simp; done), ?_⟩
    have b2 := HB1.out.drew.trans (HB2.out.mono HB1.out.size)
    have b3 := b2.trans (HB3.out.mono b2.size)
    have b4 := b3.trans (HB4.out.mono b3.size)
    exact b4.trans (HB5.out.mono b4.size)
end Law
end Go.Proofs.Ytggpmfgmdhfpaaa
