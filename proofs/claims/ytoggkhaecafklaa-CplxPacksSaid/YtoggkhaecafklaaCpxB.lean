/- The reference's numbers: parts, of, bitlen. -/
import Derived.Test.YtoggkhaecafklaaCpxA
import Derived.Test.YtoggkhaecafklaaPlan
namespace Go.Proofs.Ytoggkhaecafklaa
open Go.RowKit

def nmMinus (b : Nat) : Bool := b / 2147483648 % 2 == 1
def nmE (b : Nat) : Nat := b / 8388608 % 256
def nmF (b : Nat) : Nat := b % 8388608
def nmMan (b : Nat) : Nat := if nmE b = 255 then 0 else if nmE b = 0 then nmF b else nmF b + 8388608
def nmExp (b : Nat) : Int := if nmE b = 255 then 0 else if nmE b = 0 then -149 else (nmE b : Int) - 150
def nmKind (b : Nat) : Int := if nmE b = 255 then (if nmF b = 0 then 1 else 2) else 0
def numV (m : Bool) (man : Nat) (e k : Int) : Value := .agg #[.bool m, .int .u64 (man : Int), .int .i64 e, .int .i64 k]
theorem parts_any (b : Nat) (W : World) (hb : b < 4294967296) :
    Calls Try.prog 44 #[.int .u64 b] W fun e w' => e = .returned (.tuple #[.bool (nmMinus b), .int .u64 (nmMan b : Int), .int .i64 (nmExp b), .int .i64 (nmKind b)]) ∧ W = w' := by
  have d1 : (b : Int) / 2147483648 % 2 = ((b / 2147483648 % 2 : Nat) : Int) := by omega
  have d2 : (b : Int) / 8388608 % 256 = ((nmE b : Nat) : Int) := by unfold nmE; omega
  have d3 : (b : Int) % 8388608 = ((nmF b : Nat) : Int) := by unfold nmF; omega
  have hE : nmE b < 256 := by unfold nmE; omega
  have hF : nmF b < 8388608 := by unfold nmF; omega
  have HM : Hid (nmMinus b = (b / 2147483648 % 2 == 1)) := Lib.hid rfl
  have HMan : Hid (nmMan b = if nmE b = 255 then 0 else if nmE b = 0 then nmF b else nmF b + 8388608) := Lib.hid rfl
  have HExp : Hid (nmExp b = if nmE b = 255 then 0 else if nmE b = 0 then -149 else (nmE b : Int) - 150) := Lib.hid rfl
  have HK : Hid (nmKind b = if nmE b = 255 then (if nmF b = 0 then 1 else 2) else 0) := Lib.hid rfl
  have hm2 : b / 2147483648 % 2 < 2 := Nat.mod_lt _ (by decide)
  generalize b / 2147483648 % 2 = q at *
  generalize nmE b = E at *
  generalize nmF b = F at *
  have HQ : Hid (((q : Int) == 1) = (q == 1)) := Lib.hid (by
    rcases (show q = 0 ∨ q = 1 by omega) with rfl | rfl <;> rfl)
  rcases (show E = 255 ∧ F = 0 ∨ E = 255 ∧ F ≠ 0 ∨ E ≠ 255 ∧ E = 0 ∨ E ≠ 255 ∧ E ≠ 0 by omega) with ⟨rfl, rfl⟩ | ⟨rfl, hf⟩ | ⟨_, rfl⟩ | ⟨h1, h2⟩
  · skip
    go_enter Try.func44, Try.ntmps44
    go_wp2
    refine bodyPost_ret (v := .tuple #[.bool ((q : Int) == 1), .int .u64 (0), .int .i64 (0), .int .i64 (1)]) (by simp [results, Try.results44, go_sem]) rfl ⟨?_, rfl⟩
    rw [HM.out, HMan.out, HExp.out, HK.out, HQ.out]
    rfl
  · skip
    have hf2 : (F : Int) ≠ 0 := by omega
    go_enter Try.func44, Try.ntmps44
    go_wp2
    refine bodyPost_ret (v := .tuple #[.bool ((q : Int) == 1), .int .u64 (0), .int .i64 (0), .int .i64 (2)]) (by simp [results, Try.results44, go_sem]) rfl ⟨?_, rfl⟩
    rw [HM.out, HMan.out, HExp.out, HK.out, HQ.out]
    simp [hf]
  · skip
    go_enter Try.func44, Try.ntmps44
    go_wp2
    refine bodyPost_ret (v := .tuple #[.bool ((q : Int) == 1), .int .u64 ((F : Int)), .int .i64 (-149), .int .i64 (0)]) (by simp [results, Try.results44, go_sem]) rfl ⟨?_, rfl⟩
    rw [HM.out, HMan.out, HExp.out, HK.out, HQ.out]
    simp
  · have h3 : (E : Int) ≠ 255 := by omega
    have h4 : (E : Int) ≠ 0 := by omega
    go_enter Try.func44, Try.ntmps44
    go_wp2
    refine bodyPost_ret (v := .tuple #[.bool ((q : Int) == 1), .int .u64 ((F : Int) + 8388608), .int .i64 ((E : Int) - 150), .int .i64 (0)]) (by simp [results, Try.results44, go_sem]) rfl ⟨?_, rfl⟩
    rw [HM.out, HMan.out, HExp.out, HK.out, HQ.out]
    simp [h1, h2]
end Go.Proofs.Ytoggkhaecafklaa
