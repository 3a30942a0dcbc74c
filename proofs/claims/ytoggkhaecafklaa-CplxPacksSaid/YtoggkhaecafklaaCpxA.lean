/- Words as numbers and back: float, part, Unpack, Pack, Nan. -/
import Derived.Test.YtoggkhaecafklaaMem
import Derived.IntWalk
import Derived.Laws.ComplexArith
import Derived.Laws.Externs
import Derived.WalkKit
import Derived.WalkSpells
import Derived.WalkLawsBesides
import Derived.Handy
import Derived.BigQuiet
import Derived.Lib.Hide
namespace Go.Proofs.Ytoggkhaecafklaa
open Go.RowKit

theorem frombits (x : Int) (W : World) : (callFunc 37 #[.int .u32 x]).run Try.prog W = .ok (.value (.float .f32 x.toNat)) W := by
  rw [run_callFunc_extern (e := Extern.MathFloatBits.float32frombits) Try.func37 (by kernel_rfl) (by kernel_rfl) (by kernel_rfl) (by kernel_rfl)]
  rfl
theorem bits32 (x : Nat) (W : World) : (callFunc 38 #[.float .f32 x]).run Try.prog W = .ok (.value (.int .u32 (x : Int))) W := by
  rw [run_callFunc_extern (e := Extern.MathFloatBits.float32bits) Try.func38 (by kernel_rfl) (by kernel_rfl) (by kernel_rfl) (by kernel_rfl)]
  rfl
theorem float_any (x : Nat) (W : World) :
    Calls Try.prog 26 #[.int .u64 x] W fun e w' => e = .returned (.float .f32 (x % 4294967296)) ∧ W = w' := by
  have hf := frombits
  have hx : IntKind.u32.wrap (x : Int) = ((x % 4294967296 : Nat) : Int) := by rw [IntKind.wrap_u32]; omega
  go_enter Try.func26, Try.ntmps26
  go_wp2
  go_ret
  exact ⟨rfl, rfl⟩
def isN (b : Nat) : Bool := (Ieee.single.read b).isNaN
def partV (b : Nat) : Nat := if isN b then 2143289344 else b
theorem order_self (b : Nat) : (FloatKind.f32.format.order b b == some .eq) = !isN b := by
  unfold isN
  show ((Ieee.single.read b).order (Ieee.single.read b) == some .eq) = _
  cases Ieee.single.read b with
  | number s m e => simp [Ieee.Datum.order, Ieee.Datum.isNaN]
  | infinity s => simp [Ieee.Datum.order, Ieee.Datum.isNaN]
  | nan s t => simp [Ieee.Datum.order, Ieee.Datum.isNaN]
theorem part_any (x : Nat) (W : World) (hx : x < 4294967296) :
    Calls Try.prog 27 #[.float .f32 x] W fun e w' => e = .returned (.int .u64 (partV x)) ∧ W = w' := by
  have hf := bits32
  have ho := order_self x
  have hp : Hid (partV x = if isN x then 2143289344 else x) := Lib.hid rfl
  cases hn : isN x
  · rw [hn] at ho hp
    have hne : (FloatKind.f32.format.order x x != some .eq) = false := by rw [bne, ho]; rfl
    clear hn
    go_enter Try.func27, Try.ntmps27
    go_wp2
    go_ret
    exact ⟨by rw [hp.out]; rfl, rfl⟩
  · rw [hn] at ho hp
    have hne : (FloatKind.f32.format.order x x != some .eq) = true := by rw [bne, ho]; rfl
    clear hn
    go_enter Try.func27, Try.ntmps27
    go_wp2
    go_ret
    exact ⟨by rw [hp.out]; rfl, rfl⟩
theorem partV_lt (x : Nat) (hx : x < 4294967296) : partV x < 4294967296 := by unfold partV; split <;> omega
theorem wraps_u64 (n : Int) (h₀ : 0 ≤ n) (h₁ : n < 2 ^ 64) : IntKind.u64.wrap n = n := by rw [IntKind.wrap_u64]; omega
theorem or_shift (a b : Nat) (ha : a < 4294967296) (hb : b < 4294967296) : bits .or .u64 (a : Int) ((b : Int) * 4294967296) = ((a + 4294967296 * b : Nat) : Int) := by
  have h := bits_join .u64 64 (by decide) wraps_u64 32 ((b : Int) * 4294967296) (a : Int) (by omega) (by omega) (by omega) (by omega) (by omega) (by omega)
  have e1 := (bits_nat .u64 64 (by decide) wraps_u64 a (b * 4294967296) (by omega) (by omega)).2
  have e2 := (bits_nat .u64 64 (by decide) wraps_u64 (b * 4294967296) a (by omega) (by omega)).2
  have hc : ((b * 4294967296 : Nat) : Int) = (b : Int) * 4294967296 := by omega
  rw [hc] at e1 e2
  rw [e1, Nat.or_comm, ← e2, h]
  omega
theorem pack_any (a b : Nat) (W : World) (ha : a < 4294967296) (hb : b < 4294967296) :
    Calls Try.prog 9 #[.complex .f32 a b] W fun e w' => e = .returned (.int .u64 ((partV a + 4294967296 * partV b : Nat) : Int)) ∧ W = w' := by
  have HA := Lib.hid (partV_lt a ha)
  have HB := Lib.hid (partV_lt b hb)
  have HO := Lib.hid (or_shift _ _ HA.out HB.out)
  go_enter Try.func9, Try.ntmps9
  go_wp2_with fail
  refine (part_any a _ ha).mono ?_
  rintro e w1 ⟨rfl, rfl⟩
  go_wp2_with fail
  refine (part_any b _ hb).mono ?_
  rintro e w1 ⟨rfl, rfl⟩
  generalize hpa : partV a = pa at *
  generalize hpb : partV b = pb at *
  have HPA := Lib.hid hpa
  have HPB := Lib.hid hpb
  clear hpa hpb
  have h1 := HB.out
  go_wp2
  go_ret
  exact ⟨by rw [HPA.out, HPB.out, ← HO.out]; rfl, rfl⟩
theorem unpack_any (x : Nat) (W : World) (hx : x < 18446744073709551616) :
    Calls Try.prog 8 #[.int .u64 x] W fun e w' => e = .returned (.complex .f32 (x % 4294967296) (x / 4294967296)) ∧ W = w' := by
  obtain ⟨y, hy⟩ : ∃ y, y = x / 4294967296 := ⟨_, rfl⟩
  have hd : (x : Int) / 4294967296 = (y : Int) := by rw [hy]; rfl
  have HM : Hid (y % 4294967296 = y) := Lib.hid (Nat.mod_eq_of_lt (by omega))
  have HY := Lib.hid hy
  rw [← hy]
  clear hy
  go_enter Try.func8, Try.ntmps8
  go_wp2_with fail
  refine (float_any x _).mono ?_
  rintro e w1 ⟨rfl, rfl⟩
  go_wp2_with fail
  refine (float_any y _).mono ?_
  rintro e w1 ⟨rfl, rfl⟩
  rw [HM.out]
  go_wp2
  go_ret
  exact ⟨rfl, rfl⟩
end Go.Proofs.Ytoggkhaecafklaa
