/- Put of a frame that is not right. -/
import Derived.Test.YtidfhdkalnaddaaWireE
namespace Go.Proofs.Ytidfhdkalnaddaa
open Go.RowKit

set_option maxHeartbeats 2000000 in
theorem wput_no (f t : Int) (b : Bool) (s a : Nat) (A : Option Addr) (n c : Nat) (W : World) (hn : n ≤ 9223372036854775807) (hr : rightF f t b s n = false) :
    Calls Try.prog 7 #[frV f t b s a A n c] W fun e w' => e = .returned (.tuple #[.slice none 0 0, .int .i64 2]) ∧ Below W.heap.size W w' := by
  have HR := Lib.hid hr
  have HB0 : Hid (Below W.heap.size W (W.alloc (.cells #[.int .i64 f, .int .i64 t, .bool b, .int .u64 s, .int .u64 a, .slice A n c] 25))) := Lib.hid ((Below.refl _ W).alloc (Nat.le_refl _) _)
  unfold frV
  clear hr
  go_enter Try.func7, Try.ntmps7
  go_wp2_with fail
  refine (right_any f t b s a A n c _ hn).mono ?_
  rintro e w1 ⟨rfl, hb1⟩
  rw [HR.out]
  have HB1 := Lib.hid (HB0.out.trans (hb1.mono HB0.out.size))
  clear hb1
  go_wp2
  go_ret2
  exact ⟨rfl, HB1.out⟩
/-- PUT: the plain answer. -/
theorem wput_yes (f t : Nat) (b : Bool) (s a : Nat) (A : Option Addr) (l : List Nat) (n c : Nat) (W : World) (hf : f ≤ 15) (ht : t ≤ 15) (hs : s < 18446744073709551616) (ha : a < 18446744073709551616) (hl : l.length = n) (hn : n ≤ 5000) (hB : Bts W A l) (hr : rightF f t b s n = true) :
    Calls Try.prog 7 #[frV f t b s a A n c] W fun e w' => ∃ v, e = .returned (.tuple #[v, .int .i64 0]) ∧ w'.ownsRow W.heap.size 5 1 v (plainL f t b s a l ++ bytesOf (sumV (plainL f t b s a l)) 4).length ((plainL f t b s a l ++ bytesOf (sumV (plainL f t b s a l)) 4).map bv) ∧ Below W.heap.size W w' := by
  cases b with
  | true => exact put_true f t s a A l n c W hf ht hs ha hl hn hB hr
  | false => exact put_false f t s a A l n c W hf ht hs ha hl hn hB hr
end Go.Proofs.Ytidfhdkalnaddaa
