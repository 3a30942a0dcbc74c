/- Two frames that are the same. -/
import Derived.Test.YtidfhdkalnaddaaWireA
namespace Go.Proofs.Ytidfhdkalnaddaa
open Go.RowKit

theorem equal_bytes (A B : Option Addr) (l : List Nat) (n c d : Nat) (W : World) (hl : l.length = n) (hA : Bts W A l) (hB : Bts W B l) :
    Calls Try.prog 25 #[.slice A n c, .slice B n d] W fun e w' => e = .returned (.bool true) ∧ W = w' := by
  have h1 := fun c => conv_bts (c := c) hA hl
  have h2 := fun c => conv_bts (c := c) hB hl
  clear hA hB
  go_enter Try.func25, Try.ntmps25
  go_wp2
  go_ret
  exact ⟨rfl, rfl⟩
set_option maxRecDepth 100000 in
theorem same_yes (f t : Int) (b : Bool) (s a : Nat) (A B : Option Addr) (l : List Nat) (n c d : Nat) (W : World) (hl : l.length = n) (hA : Bts W A l) (hB : Bts W B l) :
    Calls Try.prog 13 #[frV f t b s a A n c, frV f t b s a B n d] W fun e w' => e = .returned (.bool true) ∧ Below W.heap.size W w' := by
  have HA := Lib.hid hA
  have HB := Lib.hid hB
  have HL := Lib.hid hl
  have HBL : Hid (Below W.heap.size W ((W.alloc (.cells #[.int .i64 f, .int .i64 t, .bool b, .int .u64 s, .int .u64 a, .slice A n c] 25)).alloc (.cells #[.int .i64 f, .int .i64 t, .bool b, .int .u64 s, .int .u64 a, .slice B n d] 25))) := Lib.hid (((Below.refl _ W).alloc (Nat.le_refl _) _).alloc (by simp) _)
  clear hA hB hl
  unfold frV
  go_enter Try.func13, Try.ntmps13
  go_wp2_with fail
  refine (equal_bytes A B l n c d _ HL.out (bts_below HA.out HBL.out) (bts_below HB.out HBL.out)).mono ?_
  rintro e w1 ⟨rfl, rfl⟩
  go_wp2
  go_ret
  exact ⟨rfl, HBL.out⟩
set_option maxRecDepth 100000 in
theorem rsame_yes (f t : Int) (b : Bool) (s a : Nat) (A B : Option Addr) (l : List Nat) (n c d : Nat) (W : World) (hl : l.length = n) (hA : Bts W A l) (hB : Bts W B l) :
    Calls Try.prog 12 #[frV f t b s a A n c, frV f t b s a B n d] W fun e w' => e = .returned (.bool true) ∧ Below W.heap.size W w' := by
  have HBL : Hid (Below W.heap.size W ((W.alloc (.cells #[.int .i64 f, .int .i64 t, .bool b, .int .u64 s, .int .u64 a, .slice A n c] 25)).alloc (.cells #[.int .i64 f, .int .i64 t, .bool b, .int .u64 s, .int .u64 a, .slice B n d] 25))) := Lib.hid (((Below.refl _ W).alloc (Nat.le_refl _) _).alloc (by simp) _)
  have h1 := fun c => conv_bts (c := c) (bts_below hA HBL.out) hl
  have h2 := fun c => conv_bts (c := c) (bts_below hB HBL.out) hl
  clear hA hB hl
  unfold frV
  go_enter Try.func12, Try.ntmps12
  go_wp2
  go_ret
  exact ⟨rfl, HBL.out⟩
end Go.Proofs.Ytidfhdkalnaddaa
