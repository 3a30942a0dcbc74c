/- IsaKinds. -/
import Derived.Test.YtcmaneeoblmmmaaIsaH
import Derived.Test.YtcmaneeoblmmmaaIsaI
import Derived.Test.YtcmaneeoblmmmaaIsaJ
namespace Go.Proofs.Ytcmaneeoblmmmaa
open Go.RowKit
namespace Law
theorem kinds_no (o : Int) (W : World) (hr : ¬ (0 ≤ o ∧ o < 35)) : Calls Try.prog 5 #[.int .i64 o] W fun e w' => e = .returned (.bool true) ∧ Below W.heap.size W w' := by
  have HR := Lib.hid hr
  have HK := Lib.hid (kd_no hr)
  have HS : Hid (sizeV o = 0) := Lib.hid (if_neg hr)
  have HG : Hid (signB o = false) := Lib.hid (by unfold signB; simp; omega)
  clear hr
  have hE : ((⟨#[]⟩ : ByteArray).toList == []) = true := by rw [ByteArray.toList_mk]; rfl
  go_enter Try.func5, Try.ntmps5
  go_wp2_with fail
  refine (first_ok _).mono ?_
  rintro e w1 ⟨rfl, hb1⟩
  have HB1 := Lib.hid hb1
  clear hb1
  go_wp2_with fail
  refine (of_no _ _ HR.out).mono ?_
  rintro e w2 ⟨rfl, hb2⟩
  have HB2 := Lib.hid hb2
  clear hb2
  go_wp2_with fail
  refine (kind_any _ _).mono ?_
  rintro e w' ⟨rfl, rfl⟩
  rw [HK.out, show ks 10 = ⟨#[]⟩ from rfl]
  go_wp2_with fail
  refine (size_any _ _).mono ?_
  rintro e w' ⟨rfl, rfl⟩
  rw [HS.out]
  go_wp2_with fail
  refine (sign_any _ _).mono ?_
  rintro e w' ⟨rfl, rfl⟩
  rw [HG.out]
  go_wp2
  go_ret
  refine ⟨rfl, ?_⟩
  have b1 := HB1.out
  have b2 := b1.trans (HB2.out.mono b1.size)
  exact b2.alloc b2.size _
theorem IsaKinds (o : Int) (W : World) (_ : (Lit.int .i64 o).wf = true) : Calls Try.prog 5 #[.int .i64 o] W fun e w' => e = .returned (.bool true) ∧ Below W.heap.size W w' := by
  by_cases hr : 0 ≤ o ∧ o < 35
  · rcases op_cases hr.1 hr.2 with rfl | rfl | rfl | rfl | rfl | rfl | rfl | rfl | rfl | rfl | rfl | rfl | rfl | rfl | rfl | rfl | rfl | rfl | rfl | rfl | rfl | rfl | rfl | rfl | rfl | rfl | rfl | rfl | rfl | rfl | rfl | rfl | rfl | rfl | rfl
    · exact kinds_0 W
    · exact kinds_1 W
    · exact kinds_2 W
    · exact kinds_3 W
    · exact kinds_4 W
    · exact kinds_5 W
    · exact kinds_6 W
    · exact kinds_7 W
    · exact kinds_8 W
    · exact kinds_9 W
    · exact kinds_10 W
    · exact kinds_11 W
    · exact kinds_12 W
    · exact kinds_13 W
    · exact kinds_14 W
    · exact kinds_15 W
    · exact kinds_16 W
    · exact kinds_17 W
    · exact kinds_18 W
    · exact kinds_19 W
    · exact kinds_20 W
    · exact kinds_21 W
    · exact kinds_22 W
    · exact kinds_23 W
    · exact kinds_24 W
    · exact kinds_25 W
    · exact kinds_26 W
    · exact kinds_27 W
    · exact kinds_28 W
    · exact kinds_29 W
    · exact kinds_30 W
    · exact kinds_31 W
    · exact kinds_32 W
    · exact kinds_33 W
    · exact kinds_34 W
  · exact kinds_no o W hr
end Law
end Go.Proofs.Ytcmaneeoblmmmaa
