/- A nil memory; what SetPage says no to. -/
import Derived.Test.YtgdebfpepbomiaaPhyE
namespace Go.Proofs.Ytgdebfpepbomiaa
open Go.RowKit

theorem Load_nil (a s : Int) (W : World) :
    Calls Try.prog 11 #[.pointer none, .int .u64 a, .int .i64 s] W fun e w' => e = .returned (.tuple #[.int .u64 0, .int .i64 1]) ∧ W = w' := by
  go_enter Try.func11, Try.ntmps11
  go_wp2_with fail
  refine (check_nil a s _).mono ?_
  rintro e w ⟨rfl, rfl⟩
  go_wp2_with fail
  go_ret2
  exact ⟨rfl, rfl⟩
theorem Store_nil (a s v : Int) (W : World) :
    Calls Try.prog 10 #[.pointer none, .int .u64 a, .int .i64 s, .int .u64 v] W fun e w' => e = .returned (.int .i64 1) ∧ W = w' := by
  go_enter Try.func10, Try.ntmps10
  go_wp2_with fail
  refine (check_nil a s _).mono ?_
  rintro e w ⟨rfl, rfl⟩
  go_wp2_with fail
  go_ret
  exact ⟨rfl, rfl⟩
theorem Swap_nil (a s v : Int) (W : World) :
    Calls Try.prog 13 #[.pointer none, .int .u64 a, .int .i64 s, .int .u64 v] W fun e w' => e = .returned (.tuple #[.int .u64 0, .int .i64 1]) ∧ W = w' := by
  go_enter Try.func13, Try.ntmps13
  go_wp2_with fail
  refine (Load_nil a s _).mono ?_
  rintro e w ⟨rfl, rfl⟩
  go_wp2_with fail
  go_ret2
  exact ⟨rfl, rfl⟩
theorem SetPage_nil (f : Int) (v : Value) (W : World) :
    Calls Try.prog 8 #[.pointer none, .int .i64 f, v] W fun e w' => e = .returned (.int .i64 1) ∧ W = w' := by
  go_enter Try.func8, Try.ntmps8
  go_wp2_with fail
  refine (frame_nil f _).mono ?_
  rintro e w ⟨rfl, rfl⟩
  go_wp2_with fail
  go_ret
  exact ⟨rfl, rfl⟩
theorem SetPage_no (g n : Nat) (f : Int) (u v : Value) (W : World) (hb : Blk W g 56 #[u, .int .i64 (n : Int)]) (hf : frE n f = 61) :
    Calls Try.prog 8 #[.pointer (some ⟨g, 0, none⟩), .int .i64 f, v] W fun e w' => e = .returned (.int .i64 61) ∧ W = w' := by
  have HH := Lib.hid hb
  have HE := Lib.hid hf
  clear hb hf
  go_enter Try.func8, Try.ntmps8
  go_wp2_with fail
  refine (frame_any g _ n f _ HH.out).mono ?_
  rintro e w ⟨rfl, rfl⟩
  rw [HE.out]
  go_wp2_with fail
  go_ret
  exact ⟨rfl, rfl⟩
theorem SetPage_much (g n : Nat) (f : Int) (u : Value) (A : Option Addr) (l c : Nat) (W : World) (hb : Blk W g 56 #[u, .int .i64 (n : Int)]) (hf : frE n f = 0) (hl : 4096 < l) :
    Calls Try.prog 8 #[.pointer (some ⟨g, 0, none⟩), .int .i64 f, .slice A l c] W fun e w' => e = .returned (.int .i64 2) ∧ W = w' := by
  have HH := Lib.hid hb
  have HE := Lib.hid hf
  have hl' : (4096 : Int) < (l : Int) := by omega
  clear hb hf
  go_enter Try.func8, Try.ntmps8
  go_wp2_with fail
  refine (frame_any g _ n f _ HH.out).mono ?_
  rintro e w ⟨rfl, rfl⟩
  rw [HE.out]
  go_wp2_with fail
  go_ret
  exact ⟨rfl, rfl⟩
end Go.Proofs.Ytgdebfpepbomiaa
