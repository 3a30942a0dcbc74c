/- Contracts of the reference's side: uses, reg, Right. -/
import Derived.Test.YtcmaneeoblmmmaaIsaC
namespace Go.Proofs.Ytcmaneeoblmmmaa
open Go.RowKit

def usesB (k : Nat) (p : Int) : Bool := if p == 100 then uD k else if p == 115 then uS k else if p == 116 then uT k else if p == 105 then uI k else false
set_option maxHeartbeats 16000000 in
theorem uses_any (k : Nat) (p : Int) (W : World) (hk : k < 10) (hp : p = 100 ∨ p = 115 ∨ p = 116 ∨ p = 105) :
    Calls Try.prog 20 #[.string (ks k), .int .u8 p] W fun e w' => e = .returned (.bool (usesB k p)) ∧ W = w' := by
  have f00 : (((({ data := #[100, 105] } : ByteArray)[0]'(by decide)).toNat : Nat) : Int) = 100 := rfl
  have f01 : (((({ data := #[100, 105] } : ByteArray)[1]'(by decide)).toNat : Nat) : Int) = 105 := rfl
  have f10 : (((({ data := #[100, 115, 105] } : ByteArray)[0]'(by decide)).toNat : Nat) : Int) = 100 := rfl
  have f11 : (((({ data := #[100, 115, 105] } : ByteArray)[1]'(by decide)).toNat : Nat) : Int) = 115 := rfl
  have f12 : (((({ data := #[100, 115, 105] } : ByteArray)[2]'(by decide)).toNat : Nat) : Int) = 105 := rfl
  have f20 : (((({ data := #[100, 115, 116] } : ByteArray)[0]'(by decide)).toNat : Nat) : Int) = 100 := rfl
  have f21 : (((({ data := #[100, 115, 116] } : ByteArray)[1]'(by decide)).toNat : Nat) : Int) = 115 := rfl
  have f22 : (((({ data := #[100, 115, 116] } : ByteArray)[2]'(by decide)).toNat : Nat) : Int) = 116 := rfl
  have f30 : (((({ data := #[100, 115] } : ByteArray)[0]'(by decide)).toNat : Nat) : Int) = 100 := rfl
  have f31 : (((({ data := #[100, 115] } : ByteArray)[1]'(by decide)).toNat : Nat) : Int) = 115 := rfl
  have f40 : (((({ data := #[115, 116, 105] } : ByteArray)[0]'(by decide)).toNat : Nat) : Int) = 115 := rfl
  have f41 : (((({ data := #[115, 116, 105] } : ByteArray)[1]'(by decide)).toNat : Nat) : Int) = 116 := rfl
  have f42 : (((({ data := #[115, 116, 105] } : ByteArray)[2]'(by decide)).toNat : Nat) : Int) = 105 := rfl
  rcases hp with rfl | rfl | rfl | rfl <;> rcases (show k = 0 ∨ k = 1 ∨ k = 2 ∨ k = 3 ∨ k = 4 ∨ k = 5 ∨ k = 6 ∨ k = 7 ∨ k = 8 ∨ k = 9 by omega) with rfl | rfl | rfl | rfl | rfl | rfl | rfl | rfl | rfl | rfl
  all_goals
    clear hk
    simp only [ks]
    go_enter Try.func20, Try.ntmps20
    go_wp2
    go_rounds 4
    go_ret
    exact ⟨rfl, rfl⟩
end Go.Proofs.Ytcmaneeoblmmmaa
