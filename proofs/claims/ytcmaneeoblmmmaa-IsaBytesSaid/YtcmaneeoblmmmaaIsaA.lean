/- Contracts: kinds of instructions, their parts, sizes, signs. -/
import Derived.Test.YtcmaneeoblmmmaaMem
namespace Go.Proofs.Ytcmaneeoblmmmaa
open Go.RowKit

def kdL : List Nat := [0, 1, 2, 2, 3, 3, 3, 3, 3, 3, 3, 3, 3, 4, 4, 5, 5, 5, 6, 7, 7, 7, 7, 7, 7, 7, 8, 8, 8, 8, 9, 9, 9, 9, 0]
/-- The kind's number of an instruction; 10: it is none. -/
def kd (o : Int) : Nat := if 0 ≤ o ∧ o < 35 then kdL.getD o.toNat 10 else 10
def ks : Nat → ByteArray
  | 0 => ⟨#[78]⟩
  | 1 => ⟨#[73]⟩
  | 2 => ⟨#[82, 73]⟩
  | 3 => ⟨#[82]⟩
  | 4 => ⟨#[85]⟩
  | 5 => ⟨#[66]⟩
  | 6 => ⟨#[74]⟩
  | 7 => ⟨#[76]⟩
  | 8 => ⟨#[83]⟩
  | 9 => ⟨#[65]⟩
  | _ => ⟨#[]⟩
def uD (k : Nat) : Bool := [1, 6, 2, 7, 3, 9, 4].contains k
def uS (k : Nat) : Bool := [2, 7, 3, 9, 4, 5, 8].contains k
def uT (k : Nat) : Bool := [3, 9, 5, 8].contains k
def uI (k : Nat) : Bool := [1, 6, 2, 7, 5, 8].contains k
def sizeL : List Int := [0, 0, 0, 0, 0, 0, 0, 0, 0, 0, 0, 0, 0, 0, 0, 0, 0, 0, 0, 1, 2, 4, 8, 1, 2, 4, 1, 2, 4, 8, 4, 8, 4, 8, 0]
def sizeV (o : Int) : Int := if 0 ≤ o ∧ o < 35 then sizeL.getD o.toNat 0 else 0
def signB (o : Int) : Bool := decide (19 ≤ o ∧ o ≤ 22) || decide (30 ≤ o ∧ o ≤ 33)

theorem op_cases {o : Int} (h0 : 0 ≤ o) (h1 : o < 35) : o = 0 ∨ o = 1 ∨ o = 2 ∨ o = 3 ∨ o = 4 ∨ o = 5 ∨ o = 6 ∨ o = 7 ∨ o = 8 ∨ o = 9 ∨ o = 10 ∨ o = 11 ∨ o = 12 ∨ o = 13 ∨ o = 14 ∨ o = 15 ∨ o = 16 ∨ o = 17 ∨ o = 18 ∨ o = 19 ∨ o = 20 ∨ o = 21 ∨ o = 22 ∨ o = 23 ∨ o = 24 ∨ o = 25 ∨ o = 26 ∨ o = 27 ∨ o = 28 ∨ o = 29 ∨ o = 30 ∨ o = 31 ∨ o = 32 ∨ o = 33 ∨ o = 34 := by omega
theorem kd_no {o : Int} (h : ¬ (0 ≤ o ∧ o < 35)) : kd o = 10 := by unfold kd; rw [if_neg h]
theorem kd_lt {o : Int} (h0 : 0 ≤ o) (h1 : o < 35) : kd o < 10 := by
  rcases op_cases h0 h1 with rfl | rfl | rfl | rfl | rfl | rfl | rfl | rfl | rfl | rfl | rfl | rfl | rfl | rfl | rfl | rfl | rfl | rfl | rfl | rfl | rfl | rfl | rfl | rfl | rfl | rfl | rfl | rfl | rfl | rfl | rfl | rfl | rfl | rfl | rfl <;> decide

theorem name_any (c : Int) (k : Nat) (W : World) (h : (c = 114 ∧ k = 2) ∨ (c, k) ∈ [((78 : Int), 0), (73, 1), (82, 3), (85, 4), (66, 5), (74, 6), (76, 7), (83, 8), (65, 9)]) :
    Calls Try.prog 23 #[.int .u8 c] W fun e w' => e = .returned (.string (ks k)) ∧ W = w' := by
  have h' : (c = 114 ∧ k = 2) ∨ (c = 78 ∧ k = 0) ∨ (c = 73 ∧ k = 1) ∨ (c = 82 ∧ k = 3) ∨ (c = 85 ∧ k = 4) ∨ (c = 66 ∧ k = 5) ∨ (c = 74 ∧ k = 6) ∨ (c = 76 ∧ k = 7) ∨ (c = 83 ∧ k = 8) ∨ (c = 65 ∧ k = 9) := by
    simpa using h
  clear h
  rcases h' with ⟨rfl, rfl⟩ | ⟨rfl, rfl⟩ | ⟨rfl, rfl⟩ | ⟨rfl, rfl⟩ | ⟨rfl, rfl⟩ | ⟨rfl, rfl⟩ | ⟨rfl, rfl⟩ | ⟨rfl, rfl⟩ | ⟨rfl, rfl⟩ | ⟨rfl, rfl⟩
  all_goals
    go_enter Try.func23, Try.ntmps23
    go_wp2
    go_ret
    refine ⟨?_, rfl⟩
    first | rfl | decide | kernel_rfl

set_option maxHeartbeats 4000000 in
theorem kind_any (o : Int) (W : World) :
    Calls Try.prog 15 #[.int .i64 o] W fun e w' => e = .returned (.string (ks (kd o))) ∧ W = w' := by
  by_cases hr : 0 ≤ o ∧ o < 35
  · obtain ⟨h0, h1⟩ := hr
    rcases op_cases h0 h1 with rfl | rfl | rfl | rfl | rfl | rfl | rfl | rfl | rfl | rfl | rfl | rfl | rfl | rfl | rfl | rfl | rfl | rfl | rfl | rfl | rfl | rfl | rfl | rfl | rfl | rfl | rfl | rfl | rfl | rfl | rfl | rfl | rfl | rfl | rfl
    · clear h0 h1
      go_enter Try.func15, Try.ntmps15
      go_wp2_with fail
      refine (name_any _ 0 _ (by decide)).mono ?_
      rintro e w' ⟨rfl, rfl⟩
      go_wp2
      go_ret
      exact ⟨rfl, rfl⟩
    · clear h0 h1
      go_enter Try.func15, Try.ntmps15
      go_wp2_with fail
      refine (name_any _ 1 _ (by decide)).mono ?_
      rintro e w' ⟨rfl, rfl⟩
      go_wp2
      go_ret
      exact ⟨rfl, rfl⟩
    · clear h0 h1
      go_enter Try.func15, Try.ntmps15
      go_wp2_with fail
      refine (name_any _ 2 _ (by decide)).mono ?_
      rintro e w' ⟨rfl, rfl⟩
      go_wp2
      go_ret
      exact ⟨rfl, rfl⟩
    · clear h0 h1
      go_enter Try.func15, Try.ntmps15
      go_wp2_with fail
      refine (name_any _ 2 _ (by decide)).mono ?_
      rintro e w' ⟨rfl, rfl⟩
      go_wp2
      go_ret
      exact ⟨rfl, rfl⟩
    · clear h0 h1
      go_enter Try.func15, Try.ntmps15
      go_wp2_with fail
      refine (name_any _ 3 _ (by decide)).mono ?_
      rintro e w' ⟨rfl, rfl⟩
      go_wp2
      go_ret
      exact ⟨rfl, rfl⟩
    · clear h0 h1
      go_enter Try.func15, Try.ntmps15
      go_wp2_with fail
      refine (name_any _ 3 _ (by decide)).mono ?_
      rintro e w' ⟨rfl, rfl⟩
      go_wp2
      go_ret
      exact ⟨rfl, rfl⟩
    · clear h0 h1
      go_enter Try.func15, Try.ntmps15
      go_wp2_with fail
      refine (name_any _ 3 _ (by decide)).mono ?_
      rintro e w' ⟨rfl, rfl⟩
      go_wp2
      go_ret
      exact ⟨rfl, rfl⟩
    · clear h0 h1
      go_enter Try.func15, Try.ntmps15
      go_wp2_with fail
      refine (name_any _ 3 _ (by decide)).mono ?_
      rintro e w' ⟨rfl, rfl⟩
      go_wp2
      go_ret
      exact ⟨rfl, rfl⟩
    · clear h0 h1
      go_enter Try.func15, Try.ntmps15
      go_wp2_with fail
      refine (name_any _ 3 _ (by decide)).mono ?_
      rintro e w' ⟨rfl, rfl⟩
      go_wp2
      go_ret
      exact ⟨rfl, rfl⟩
    · clear h0 h1
      go_enter Try.func15, Try.ntmps15
      go_wp2_with fail
      refine (name_any _ 3 _ (by decide)).mono ?_
      rintro e w' ⟨rfl, rfl⟩
      go_wp2
      go_ret
      exact ⟨rfl, rfl⟩
    · clear h0 h1
      go_enter Try.func15, Try.ntmps15
      go_wp2_with fail
      refine (name_any _ 3 _ (by decide)).mono ?_
      rintro e w' ⟨rfl, rfl⟩
      go_wp2
      go_ret
      exact ⟨rfl, rfl⟩
    · clear h0 h1
      go_enter Try.func15, Try.ntmps15
      go_wp2_with fail
      refine (name_any _ 3 _ (by decide)).mono ?_
      rintro e w' ⟨rfl, rfl⟩
      go_wp2
      go_ret
      exact ⟨rfl, rfl⟩
    · clear h0 h1
      go_enter Try.func15, Try.ntmps15
      go_wp2_with fail
      refine (name_any _ 3 _ (by decide)).mono ?_
      rintro e w' ⟨rfl, rfl⟩
      go_wp2
      go_ret
      exact ⟨rfl, rfl⟩
    · clear h0 h1
      go_enter Try.func15, Try.ntmps15
      go_wp2_with fail
      refine (name_any _ 4 _ (by decide)).mono ?_
      rintro e w' ⟨rfl, rfl⟩
      go_wp2
      go_ret
      exact ⟨rfl, rfl⟩
    · clear h0 h1
      go_enter Try.func15, Try.ntmps15
      go_wp2_with fail
      refine (name_any _ 4 _ (by decide)).mono ?_
      rintro e w' ⟨rfl, rfl⟩
      go_wp2
      go_ret
      exact ⟨rfl, rfl⟩
    · clear h0 h1
      go_enter Try.func15, Try.ntmps15
      go_wp2_with fail
      refine (name_any _ 5 _ (by decide)).mono ?_
      rintro e w' ⟨rfl, rfl⟩
      go_wp2
      go_ret
      exact ⟨rfl, rfl⟩
    · clear h0 h1
      go_enter Try.func15, Try.ntmps15
      go_wp2_with fail
      refine (name_any _ 5 _ (by decide)).mono ?_
      rintro e w' ⟨rfl, rfl⟩
      go_wp2
      go_ret
      exact ⟨rfl, rfl⟩
    · clear h0 h1
      go_enter Try.func15, Try.ntmps15
      go_wp2_with fail
      refine (name_any _ 5 _ (by decide)).mono ?_
      rintro e w' ⟨rfl, rfl⟩
      go_wp2
      go_ret
      exact ⟨rfl, rfl⟩
    · clear h0 h1
      go_enter Try.func15, Try.ntmps15
      go_wp2_with fail
      refine (name_any _ 6 _ (by decide)).mono ?_
      rintro e w' ⟨rfl, rfl⟩
      go_wp2
      go_ret
      exact ⟨rfl, rfl⟩
    · clear h0 h1
      go_enter Try.func15, Try.ntmps15
      go_wp2_with fail
      refine (name_any _ 7 _ (by decide)).mono ?_
      rintro e w' ⟨rfl, rfl⟩
      go_wp2
      go_ret
      exact ⟨rfl, rfl⟩
    · clear h0 h1
      go_enter Try.func15, Try.ntmps15
      go_wp2_with fail
      refine (name_any _ 7 _ (by decide)).mono ?_
      rintro e w' ⟨rfl, rfl⟩
      go_wp2
      go_ret
      exact ⟨rfl, rfl⟩
    · clear h0 h1
      go_enter Try.func15, Try.ntmps15
      go_wp2_with fail
      refine (name_any _ 7 _ (by decide)).mono ?_
      rintro e w' ⟨rfl, rfl⟩
      go_wp2
      go_ret
      exact ⟨rfl, rfl⟩
    · clear h0 h1
      go_enter Try.func15, Try.ntmps15
      go_wp2_with fail
      refine (name_any _ 7 _ (by decide)).mono ?_
      rintro e w' ⟨rfl, rfl⟩
      go_wp2
      go_ret
      exact ⟨rfl, rfl⟩
    · clear h0 h1
      go_enter Try.func15, Try.ntmps15
      go_wp2_with fail
      refine (name_any _ 7 _ (by decide)).mono ?_
      rintro e w' ⟨rfl, rfl⟩
      go_wp2
      go_ret
      exact ⟨rfl, rfl⟩
    · clear h0 h1
      go_enter Try.func15, Try.ntmps15
      go_wp2_with fail
      refine (name_any _ 7 _ (by decide)).mono ?_
      rintro e w' ⟨rfl, rfl⟩
      go_wp2
      go_ret
      exact ⟨rfl, rfl⟩
    · clear h0 h1
      go_enter Try.func15, Try.ntmps15
      go_wp2_with fail
      refine (name_any _ 7 _ (by decide)).mono ?_
      rintro e w' ⟨rfl, rfl⟩
      go_wp2
      go_ret
      exact ⟨rfl, rfl⟩
    · clear h0 h1
      go_enter Try.func15, Try.ntmps15
      go_wp2_with fail
      refine (name_any _ 8 _ (by decide)).mono ?_
      rintro e w' ⟨rfl, rfl⟩
      go_wp2
      go_ret
      exact ⟨rfl, rfl⟩
    · clear h0 h1
      go_enter Try.func15, Try.ntmps15
      go_wp2_with fail
      refine (name_any _ 8 _ (by decide)).mono ?_
      rintro e w' ⟨rfl, rfl⟩
      go_wp2
      go_ret
      exact ⟨rfl, rfl⟩
    · clear h0 h1
      go_enter Try.func15, Try.ntmps15
      go_wp2_with fail
      refine (name_any _ 8 _ (by decide)).mono ?_
      rintro e w' ⟨rfl, rfl⟩
      go_wp2
      go_ret
      exact ⟨rfl, rfl⟩
    · clear h0 h1
      go_enter Try.func15, Try.ntmps15
      go_wp2_with fail
      refine (name_any _ 8 _ (by decide)).mono ?_
      rintro e w' ⟨rfl, rfl⟩
      go_wp2
      go_ret
      exact ⟨rfl, rfl⟩
    · clear h0 h1
      go_enter Try.func15, Try.ntmps15
      go_wp2_with fail
      refine (name_any _ 9 _ (by decide)).mono ?_
      rintro e w' ⟨rfl, rfl⟩
      go_wp2
      go_ret
      exact ⟨rfl, rfl⟩
    · clear h0 h1
      go_enter Try.func15, Try.ntmps15
      go_wp2_with fail
      refine (name_any _ 9 _ (by decide)).mono ?_
      rintro e w' ⟨rfl, rfl⟩
      go_wp2
      go_ret
      exact ⟨rfl, rfl⟩
    · clear h0 h1
      go_enter Try.func15, Try.ntmps15
      go_wp2_with fail
      refine (name_any _ 9 _ (by decide)).mono ?_
      rintro e w' ⟨rfl, rfl⟩
      go_wp2
      go_ret
      exact ⟨rfl, rfl⟩
    · clear h0 h1
      go_enter Try.func15, Try.ntmps15
      go_wp2_with fail
      refine (name_any _ 9 _ (by decide)).mono ?_
      rintro e w' ⟨rfl, rfl⟩
      go_wp2
      go_ret
      exact ⟨rfl, rfl⟩
    · clear h0 h1
      go_enter Try.func15, Try.ntmps15
      go_wp2_with fail
      refine (name_any _ 0 _ (by decide)).mono ?_
      rintro e w' ⟨rfl, rfl⟩
      go_wp2
      go_ret
      exact ⟨rfl, rfl⟩
  · rw [kd_no hr]
    rcases (show o < 0 ∨ (0 ≤ o ∧ 35 ≤ o) by omega) with h | ⟨h, h2⟩
    · clear hr
      go_enter Try.func15, Try.ntmps15
      go_wp2
      go_ret
      exact ⟨rfl, rfl⟩
    · clear hr
      have h3 : decide (o < 0) = false := by simp; omega
      go_enter Try.func15, Try.ntmps15
      go_wp2
      go_ret
      exact ⟨rfl, rfl⟩

theorem has_any (k : Nat) (W : World) (hk : k < 10) :
    Calls Try.prog 21 #[.string (ks k)] W fun e w' => e = .returned (.agg #[.bool (uD k), .bool (uS k), .bool (uT k), .bool (uI k)]) ∧ W.alloc (.cells #[.bool (uD k), .bool (uS k), .bool (uT k), .bool (uI k)] 50) = w' := by
  rcases (show k = 0 ∨ k = 1 ∨ k = 2 ∨ k = 3 ∨ k = 4 ∨ k = 5 ∨ k = 6 ∨ k = 7 ∨ k = 8 ∨ k = 9 by omega) with rfl | rfl | rfl | rfl | rfl | rfl | rfl | rfl | rfl | rfl
  · rw [show ks 0 = ⟨#[78]⟩ from rfl, show uD 0 = false from rfl, show uS 0 = false from rfl, show uT 0 = false from rfl, show uI 0 = false from rfl]
    clear hk
    go_enter Try.func21, Try.ntmps21
    go_wp2
    exact bodyPost_ret (v := .agg #[.bool false, .bool false, .bool false, .bool false]) (by simp [results, Try.results21, go_sem]) rfl ⟨rfl, rfl⟩
  · rw [show ks 1 = ⟨#[73]⟩ from rfl, show uD 1 = true from rfl, show uS 1 = false from rfl, show uT 1 = false from rfl, show uI 1 = true from rfl]
    clear hk
    go_enter Try.func21, Try.ntmps21
    go_wp2
    exact bodyPost_ret (v := .agg #[.bool true, .bool false, .bool false, .bool true]) (by simp [results, Try.results21, go_sem]) rfl ⟨rfl, rfl⟩
  · rw [show ks 2 = ⟨#[82, 73]⟩ from rfl, show uD 2 = true from rfl, show uS 2 = true from rfl, show uT 2 = false from rfl, show uI 2 = true from rfl]
    clear hk
    go_enter Try.func21, Try.ntmps21
    go_wp2
    exact bodyPost_ret (v := .agg #[.bool true, .bool true, .bool false, .bool true]) (by simp [results, Try.results21, go_sem]) rfl ⟨rfl, rfl⟩
  · rw [show ks 3 = ⟨#[82]⟩ from rfl, show uD 3 = true from rfl, show uS 3 = true from rfl, show uT 3 = true from rfl, show uI 3 = false from rfl]
    clear hk
    go_enter Try.func21, Try.ntmps21
    go_wp2
    exact bodyPost_ret (v := .agg #[.bool true, .bool true, .bool true, .bool false]) (by simp [results, Try.results21, go_sem]) rfl ⟨rfl, rfl⟩
  · rw [show ks 4 = ⟨#[85]⟩ from rfl, show uD 4 = true from rfl, show uS 4 = true from rfl, show uT 4 = false from rfl, show uI 4 = false from rfl]
    clear hk
    go_enter Try.func21, Try.ntmps21
    go_wp2
    exact bodyPost_ret (v := .agg #[.bool true, .bool true, .bool false, .bool false]) (by simp [results, Try.results21, go_sem]) rfl ⟨rfl, rfl⟩
  · rw [show ks 5 = ⟨#[66]⟩ from rfl, show uD 5 = false from rfl, show uS 5 = true from rfl, show uT 5 = true from rfl, show uI 5 = true from rfl]
    clear hk
    go_enter Try.func21, Try.ntmps21
    go_wp2
    exact bodyPost_ret (v := .agg #[.bool false, .bool true, .bool true, .bool true]) (by simp [results, Try.results21, go_sem]) rfl ⟨rfl, rfl⟩
  · rw [show ks 6 = ⟨#[74]⟩ from rfl, show uD 6 = true from rfl, show uS 6 = false from rfl, show uT 6 = false from rfl, show uI 6 = true from rfl]
    clear hk
    go_enter Try.func21, Try.ntmps21
    go_wp2
    exact bodyPost_ret (v := .agg #[.bool true, .bool false, .bool false, .bool true]) (by simp [results, Try.results21, go_sem]) rfl ⟨rfl, rfl⟩
  · rw [show ks 7 = ⟨#[76]⟩ from rfl, show uD 7 = true from rfl, show uS 7 = true from rfl, show uT 7 = false from rfl, show uI 7 = true from rfl]
    clear hk
    go_enter Try.func21, Try.ntmps21
    go_wp2
    exact bodyPost_ret (v := .agg #[.bool true, .bool true, .bool false, .bool true]) (by simp [results, Try.results21, go_sem]) rfl ⟨rfl, rfl⟩
  · rw [show ks 8 = ⟨#[83]⟩ from rfl, show uD 8 = false from rfl, show uS 8 = true from rfl, show uT 8 = true from rfl, show uI 8 = true from rfl]
    clear hk
    go_enter Try.func21, Try.ntmps21
    go_wp2
    exact bodyPost_ret (v := .agg #[.bool false, .bool true, .bool true, .bool true]) (by simp [results, Try.results21, go_sem]) rfl ⟨rfl, rfl⟩
  · rw [show ks 9 = ⟨#[65]⟩ from rfl, show uD 9 = true from rfl, show uS 9 = true from rfl, show uT 9 = true from rfl, show uI 9 = false from rfl]
    clear hk
    go_enter Try.func21, Try.ntmps21
    go_wp2
    exact bodyPost_ret (v := .agg #[.bool true, .bool true, .bool true, .bool false]) (by simp [results, Try.results21, go_sem]) rfl ⟨rfl, rfl⟩

set_option maxHeartbeats 4000000 in
theorem size_any (o : Int) (W : World) : Calls Try.prog 16 #[.int .i64 o] W fun e w' => e = .returned (.int .i64 (sizeV o)) ∧ W = w' := by
  by_cases hr : 0 ≤ o ∧ o < 35
  · obtain ⟨h0, h1⟩ := hr
    rcases op_cases h0 h1 with rfl | rfl | rfl | rfl | rfl | rfl | rfl | rfl | rfl | rfl | rfl | rfl | rfl | rfl | rfl | rfl | rfl | rfl | rfl | rfl | rfl | rfl | rfl | rfl | rfl | rfl | rfl | rfl | rfl | rfl | rfl | rfl | rfl | rfl | rfl
    all_goals
      clear h0 h1
      go_enter Try.func16, Try.ntmps16
      go_wp2
      go_ret
      exact ⟨rfl, rfl⟩
  · rw [show sizeV o = 0 by unfold sizeV; rw [if_neg hr]]
    have n19 : (o == 19) = false := by rw [beq_eq_false_iff_ne]; omega
    have n20 : (o == 20) = false := by rw [beq_eq_false_iff_ne]; omega
    have n21 : (o == 21) = false := by rw [beq_eq_false_iff_ne]; omega
    have n22 : (o == 22) = false := by rw [beq_eq_false_iff_ne]; omega
    have n23 : (o == 23) = false := by rw [beq_eq_false_iff_ne]; omega
    have n24 : (o == 24) = false := by rw [beq_eq_false_iff_ne]; omega
    have n25 : (o == 25) = false := by rw [beq_eq_false_iff_ne]; omega
    have n26 : (o == 26) = false := by rw [beq_eq_false_iff_ne]; omega
    have n27 : (o == 27) = false := by rw [beq_eq_false_iff_ne]; omega
    have n28 : (o == 28) = false := by rw [beq_eq_false_iff_ne]; omega
    have n29 : (o == 29) = false := by rw [beq_eq_false_iff_ne]; omega
    have n30 : (o == 30) = false := by rw [beq_eq_false_iff_ne]; omega
    have n31 : (o == 31) = false := by rw [beq_eq_false_iff_ne]; omega
    have n32 : (o == 32) = false := by rw [beq_eq_false_iff_ne]; omega
    have n33 : (o == 33) = false := by rw [beq_eq_false_iff_ne]; omega
    clear hr
    go_enter Try.func16, Try.ntmps16
    go_wp2
    go_ret
    exact ⟨rfl, rfl⟩

set_option maxHeartbeats 4000000 in
theorem sign_any (o : Int) (W : World) : Calls Try.prog 17 #[.int .i64 o] W fun e w' => e = .returned (.bool (signB o)) ∧ W = w' := by
  rcases (show o < 19 ∨ (19 ≤ o ∧ o ≤ 22) ∨ (22 < o ∧ o < 30) ∨ (30 ≤ o ∧ o ≤ 33) ∨ 33 < o by omega) with h | ⟨h, h2⟩ | ⟨h, h2⟩ | ⟨h, h2⟩ | h
  · rw [show signB o = false by unfold signB; simp; omega]
    have e1 : decide (19 ≤ o) = false := by simp; omega
    have e2 : decide (30 ≤ o) = false := by simp; omega
    clear h
    go_enter Try.func17, Try.ntmps17
    go_wp2
    go_ret
    exact ⟨rfl, rfl⟩
  · rw [show signB o = true by unfold signB; simp; omega]
    have e1 : decide (19 ≤ o) = true := by simp; omega
    have e2 : decide (o ≤ 22) = true := by simp; omega
    clear h h2
    go_enter Try.func17, Try.ntmps17
    go_wp2
    go_ret
    exact ⟨rfl, rfl⟩
  · rw [show signB o = false by unfold signB; simp; omega]
    have e1 : decide (19 ≤ o) = true := by simp; omega
    have e2 : decide (o ≤ 22) = false := by simp; omega
    have e3 : decide (30 ≤ o) = false := by simp; omega
    clear h h2
    go_enter Try.func17, Try.ntmps17
    go_wp2
    go_ret
    exact ⟨rfl, rfl⟩
  · rw [show signB o = true by unfold signB; simp; omega]
    have e1 : decide (19 ≤ o) = true := by simp; omega
    have e2 : decide (o ≤ 22) = false := by simp; omega
    have e3 : decide (30 ≤ o) = true := by simp; omega
    have e4 : decide (o ≤ 33) = true := by simp; omega
    clear h h2
    go_enter Try.func17, Try.ntmps17
    go_wp2
    go_ret
    exact ⟨rfl, rfl⟩
  · rw [show signB o = false by unfold signB; simp; omega]
    have e1 : decide (19 ≤ o) = true := by simp; omega
    have e2 : decide (o ≤ 22) = false := by simp; omega
    have e3 : decide (30 ≤ o) = true := by simp; omega
    have e4 : decide (o ≤ 33) = false := by simp; omega
    clear h
    go_enter Try.func17, Try.ntmps17
    go_wp2
    go_ret
    exact ⟨rfl, rfl⟩
end Go.Proofs.Ytcmaneeoblmmmaa
