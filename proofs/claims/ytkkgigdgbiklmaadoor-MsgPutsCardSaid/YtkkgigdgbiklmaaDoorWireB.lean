/- Two frames that are the same. -/
import Derived.Test.YtkkgigdgbiklmaaDoorCheckC
namespace Go.Proofs.YtkkgigdgbiklmaaDoor
open Go.RowKit

theorem equal_bytes (A B : Option Addr) (l : List Nat) (n c d : Nat) (W : World) (hl : l.length = n) (hA : Bts W A l) (hB : Bts W B l) :
    Calls Tryd.prog 24 #[.slice A n c, .slice B n d] W fun e w' => e = .returned (.bool true) ∧ W = w' := by
  have h1 := fun c => conv_bts (c := c) hA hl
  have h2 := fun c => conv_bts (c := c) hB hl
  clear hA hB
  go_enter Tryd.func24, Tryd.ntmps24
  go_wp2
  go_ret
  exact ⟨rfl, rfl⟩
end Go.Proofs.YtkkgigdgbiklmaaDoor
