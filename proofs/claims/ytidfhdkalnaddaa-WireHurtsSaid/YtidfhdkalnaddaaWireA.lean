/- Which frames are right. -/
import Derived.Test.YtidfhdkalnaddaaByte
import Derived.Test.YtidfhdkalnaddaaSep
namespace Go.Proofs.Ytidfhdkalnaddaa
open Go.RowKit

def nodeB (n : Int) : Bool := decide (0 ≤ n) && decide (n < 16)
theorem node_any (n : Int) (W : World) : Calls Try.prog 19 #[.int .i64 n] W fun e w' => e = .returned (.bool (nodeB n)) ∧ W = w' := by
  have H : Hid (nodeB n = (decide (0 ≤ n) && decide (n < 16))) := Lib.hid rfl
  by_cases h0 : 0 ≤ n
  · by_cases h1 : n < 16
    · go_enter Try.func19, Try.ntmps19
      go_wp2
      go_ret
      exact ⟨by rw [H.out, decide_eq_true h0, decide_eq_true h1]; rfl, rfl⟩
    · have h2 : 16 ≤ n := by omega
      go_enter Try.func19, Try.ntmps19
      go_wp2
      go_ret
      exact ⟨by rw [H.out, decide_eq_true h0, decide_eq_false (show ¬ n < 16 by omega)]; rfl, rfl⟩
  · have h2 : n < 0 := by omega
    go_enter Try.func19, Try.ntmps19
    go_wp2
    go_ret
    exact ⟨by rw [H.out, decide_eq_false (show ¬ 0 ≤ n by omega)]; rfl, rfl⟩
def rightF (f t : Int) (b : Bool) (s n : Nat) : Bool := nodeB f && nodeB t && !(f == t) && (if b then !(s == 0) && decide (n ≤ 4120) else s == 0 && n == 0)
def frV (f t : Int) (b : Bool) (s a : Nat) (A : Option Addr) (n c : Nat) : Value := .agg #[.int .i64 f, .int .i64 t, .bool b, .int .u64 s, .int .u64 a, .slice A n c]
set_option maxHeartbeats 4000000 in
theorem right_any (f t : Int) (b : Bool) (s a : Nat) (A : Option Addr) (n c : Nat) (W : World) (hn : n ≤ 9223372036854775807) :
    Calls Try.prog 9 #[frV f t b s a A n c] W fun e w' => e = .returned (.bool (rightF f t b s n)) ∧ Below W.heap.size W w' := by
  have H : Hid (rightF f t b s n = (nodeB f && nodeB t && !(f == t) && (if b then !(s == 0) && decide (n ≤ 4120) else s == 0 && n == 0))) := Lib.hid rfl
  have HB : Hid (Below W.heap.size W (W.alloc (.cells #[.int .i64 f, .int .i64 t, .bool b, .int .u64 s, .int .u64 a, .slice A n c] 25))) := Lib.hid ((Below.refl _ W).alloc (Nat.le_refl _) _)
  unfold frV
  cases h1 : nodeB f
  · have H1 := Lib.hid h1
    clear h1
    go_enter Try.func9, Try.ntmps9
    go_wp2_with fail
    refine (node_any f _).mono ?_
    rintro e w1 ⟨rfl, rfl⟩
    rw [H1.out]
    go_wp2
    go_ret
    exact ⟨by rw [H.out, H1.out]; rfl, HB.out⟩
  cases h2 : nodeB t
  · have H1 := Lib.hid h1
    have H2 := Lib.hid h2
    clear h1 h2
    go_enter Try.func9, Try.ntmps9
    go_wp2_with fail
    refine (node_any f _).mono ?_
    rintro e w1 ⟨rfl, rfl⟩
    rw [H1.out]
    go_wp2_with fail
    refine (node_any t _).mono ?_
    rintro e w1 ⟨rfl, rfl⟩
    rw [H2.out]
    go_wp2
    go_ret
    exact ⟨by rw [H.out, H1.out, H2.out]; rfl, HB.out⟩
  have H1 := Lib.hid h1
  have H2 := Lib.hid h2
  clear h1 h2
  by_cases h3 : f = t
  · subst h3
    go_enter Try.func9, Try.ntmps9
    go_wp2_with fail
    refine (node_any f _).mono ?_
    rintro e w1 ⟨rfl, rfl⟩
    rw [H1.out]
    go_wp2_with fail
    refine (node_any f _).mono ?_
    rintro e w1 ⟨rfl, rfl⟩
    rw [H2.out]
    go_wp2
    go_ret
    exact ⟨by rw [H.out, H1.out]; simp, HB.out⟩
  have h3' : (f == t) = false := by simpa using h3
  have H3 := Lib.hid h3'
  cases b
  · rcases (show (s = 0 ∧ n = 0) ∨ (s = 0 ∧ n ≠ 0) ∨ s ≠ 0 by omega) with ⟨rfl, rfl⟩ | ⟨rfl, h5⟩ | h4
    · go_enter Try.func9, Try.ntmps9
      go_wp2_with fail
      refine (node_any f _).mono ?_
      rintro e w1 ⟨rfl, rfl⟩
      rw [H1.out]
      go_wp2_with fail
      refine (node_any t _).mono ?_
      rintro e w1 ⟨rfl, rfl⟩
      rw [H2.out]
      go_wp2
      go_ret
      exact ⟨by rw [H.out, H1.out, H2.out, H3.out]; rfl, HB.out⟩
    · have h6 : ((n : Int) == 0) = false := by simpa using h5
      have H5 := Lib.hid h5
      clear h5
      go_enter Try.func9, Try.ntmps9
      go_wp2_with fail
      refine (node_any f _).mono ?_
      rintro e w1 ⟨rfl, rfl⟩
      rw [H1.out]
      go_wp2_with fail
      refine (node_any t _).mono ?_
      rintro e w1 ⟨rfl, rfl⟩
      rw [H2.out]
      go_wp2
      go_ret
      exact ⟨by rw [H.out, H1.out, H2.out, H3.out]; simp [H5.out], HB.out⟩
    · have h6 : ((s : Int) == 0) = false := by simpa using h4
      have H5 := Lib.hid h4
      clear h4
      go_enter Try.func9, Try.ntmps9
      go_wp2_with fail
      refine (node_any f _).mono ?_
      rintro e w1 ⟨rfl, rfl⟩
      rw [H1.out]
      go_wp2_with fail
      refine (node_any t _).mono ?_
      rintro e w1 ⟨rfl, rfl⟩
      rw [H2.out]
      go_wp2
      go_ret
      exact ⟨by rw [H.out, H1.out, H2.out, H3.out]; simp [H5.out], HB.out⟩
  · rcases (show s = 0 ∨ (s ≠ 0 ∧ n ≤ 4120) ∨ (s ≠ 0 ∧ ¬ n ≤ 4120) by omega) with rfl | ⟨h4, h5⟩ | ⟨h4, h5⟩
    · skip
      go_enter Try.func9, Try.ntmps9
      go_wp2_with fail
      refine (node_any f _).mono ?_
      rintro e w1 ⟨rfl, rfl⟩
      rw [H1.out]
      go_wp2_with fail
      refine (node_any t _).mono ?_
      rintro e w1 ⟨rfl, rfl⟩
      rw [H2.out]
      go_wp2
      go_ret
      exact ⟨by rw [H.out, H1.out, H2.out, H3.out]; rfl, HB.out⟩
    · have h6 : ((s : Int) == 0) = false := by simpa using h4
      have h7 : (n : Int) ≤ 4120 := by omega
      have H5 := Lib.hid h4
      have H6 := Lib.hid h5
      clear h4 h5
      go_enter Try.func9, Try.ntmps9
      go_wp2_with fail
      refine (node_any f _).mono ?_
      rintro e w1 ⟨rfl, rfl⟩
      rw [H1.out]
      go_wp2_with fail
      refine (node_any t _).mono ?_
      rintro e w1 ⟨rfl, rfl⟩
      rw [H2.out]
      go_wp2
      go_ret
      exact ⟨by rw [H.out, H1.out, H2.out, H3.out]; simp [H5.out, H6.out]; rw [bne, h6]; have h8 := H5.out; simp [h8], HB.out⟩
    · have h6 : ((s : Int) == 0) = false := by simpa using h4
      have h7 : (4120 : Int) < n := by omega
      have H5 := Lib.hid h4
      have H6 := Lib.hid h5
      clear h4 h5
      go_enter Try.func9, Try.ntmps9
      go_wp2_with fail
      refine (node_any f _).mono ?_
      rintro e w1 ⟨rfl, rfl⟩
      rw [H1.out]
      go_wp2_with fail
      refine (node_any t _).mono ?_
      rintro e w1 ⟨rfl, rfl⟩
      rw [H2.out]
      go_wp2
      go_ret
      exact ⟨by (rw [H.out, H1.out, H2.out, H3.out]); (simp [H5.out, H6.out]; omega), HB.out⟩
theorem nodeB_eq (n : Int) : nodeB n = (decide (0 ≤ n) && decide (n ≤ 15)) := by
  unfold nodeB
  by_cases h : n < 16
  · rw [decide_eq_true h, decide_eq_true (show n ≤ 15 by omega)]
  · rw [decide_eq_false h, decide_eq_false (show ¬ n ≤ 15 by omega)]
set_option maxHeartbeats 4000000 in
theorem rright_any (f t : Int) (b : Bool) (s a : Nat) (A : Option Addr) (n c : Nat) (W : World) (hn : n ≤ 9223372036854775807) :
    Calls Try.prog 8 #[frV f t b s a A n c] W fun e w' => e = .returned (.bool (rightF f t b s n)) ∧ Below W.heap.size W w' := by
  have H : Hid (rightF f t b s n = (nodeB f && nodeB t && !(f == t) && (if b then !(s == 0) && decide (n ≤ 4120) else s == 0 && n == 0))) := Lib.hid rfl
  have HB : Hid (Below W.heap.size W (W.alloc (.cells #[.int .i64 f, .int .i64 t, .bool b, .int .u64 s, .int .u64 a, .slice A n c] 25))) := Lib.hid ((Below.refl _ W).alloc (Nat.le_refl _) _)
  have hno : ∀ n : Int, ¬ (0 ≤ n ∧ n ≤ 15) → nodeB n = false := fun n h => by
    rw [nodeB_eq]
    by_cases h0 : 0 ≤ n
    · rw [decide_eq_false (show ¬ n ≤ 15 by omega), Bool.and_false]
    · rw [decide_eq_false h0, Bool.false_and]
  have hyes : ∀ n : Int, 0 ≤ n → n ≤ 15 → nodeB n = true := fun n h0 h1 => by rw [nodeB_eq, decide_eq_true h0, decide_eq_true h1]; rfl
  have HNO := Lib.hid hno
  have HYES := Lib.hid hyes
  clear hno hyes
  unfold frV
  rcases (show f < 0 ∨ (0 ≤ f ∧ 15 < f) ∨ (0 ≤ f ∧ f ≤ 15 ∧ t < 0) ∨ (0 ≤ f ∧ f ≤ 15 ∧ 0 ≤ t ∧ 15 < t) ∨ (0 ≤ f ∧ f ≤ 15 ∧ 0 ≤ t ∧ t ≤ 15) by omega) with h | ⟨h, h'⟩ | ⟨h0, h1, h⟩ | ⟨h0, h1, h, h'⟩ | ⟨h0, h1, h2, h3⟩
  · have HF := Lib.hid (HNO.out f (by omega))
    go_enter Try.func8, Try.ntmps8
    go_wp2
    go_ret
    exact ⟨by rw [H.out, HF.out]; rfl, HB.out⟩
  · have HF := Lib.hid (HNO.out f (by omega))
    go_enter Try.func8, Try.ntmps8
    go_wp2
    go_ret
    exact ⟨by rw [H.out, HF.out]; rfl, HB.out⟩
  · have HF := Lib.hid (HYES.out f h0 h1)
    have HT := Lib.hid (HNO.out t (by omega))
    go_enter Try.func8, Try.ntmps8
    go_wp2
    go_ret
    exact ⟨by rw [H.out, HF.out, HT.out]; rfl, HB.out⟩
  · have HF := Lib.hid (HYES.out f h0 h1)
    have HT := Lib.hid (HNO.out t (by omega))
    go_enter Try.func8, Try.ntmps8
    go_wp2
    go_ret
    exact ⟨by rw [H.out, HF.out, HT.out]; rfl, HB.out⟩
  have H1 := Lib.hid (HYES.out f h0 h1)
  have H2 := Lib.hid (HYES.out t h2 h3)
  by_cases hft : f = t
  · subst hft
    go_enter Try.func8, Try.ntmps8
    go_wp2
    go_ret
    exact ⟨by rw [H.out, H1.out]; simp, HB.out⟩
  have hft' : (f == t) = false := by simpa using hft
  have H3 := Lib.hid hft'
  cases b
  · rcases (show (s = 0 ∧ n = 0) ∨ (s = 0 ∧ n ≠ 0) ∨ s ≠ 0 by omega) with ⟨rfl, rfl⟩ | ⟨rfl, h5⟩ | h4
    · go_enter Try.func8, Try.ntmps8
      go_wp2
      go_ret
      exact ⟨by rw [H.out, H1.out, H2.out, H3.out]; rfl, HB.out⟩
    · have h6 : ((n : Int) == 0) = false := by simpa using h5
      have H5 := Lib.hid h5
      clear h5
      go_enter Try.func8, Try.ntmps8
      go_wp2
      go_ret
      exact ⟨by rw [H.out, H1.out, H2.out, H3.out]; simp [H5.out], HB.out⟩
    · have h6 : ((s : Int) == 0) = false := by simpa using h4
      have H5 := Lib.hid h4
      clear h4
      go_enter Try.func8, Try.ntmps8
      go_wp2
      go_ret
      exact ⟨by rw [H.out, H1.out, H2.out, H3.out]; simp [H5.out], HB.out⟩
  · rcases (show s = 0 ∨ (s ≠ 0 ∧ n ≤ 4120) ∨ (s ≠ 0 ∧ ¬ n ≤ 4120) by omega) with rfl | ⟨h4, h5⟩ | ⟨h4, h5⟩
    · go_enter Try.func8, Try.ntmps8
      go_wp2
      go_ret
      exact ⟨by rw [H.out, H1.out, H2.out, H3.out]; rfl, HB.out⟩
    · have h6 : (0 : Int) < (s : Int) := by omega
      have h7 : (n : Int) ≤ 4120 := by omega
      have H5 := Lib.hid h4
      have H6 := Lib.hid h5
      clear h4 h5
      go_enter Try.func8, Try.ntmps8
      go_wp2
      go_ret
      exact ⟨by rw [H.out, H1.out, H2.out, H3.out]; simp [H5.out, H6.out], HB.out⟩
    · have h6 : (0 : Int) < (s : Int) := by omega
      have h7 : (4120 : Int) < n := by omega
      have H5 := Lib.hid h4
      have H6 := Lib.hid h5
      clear h4 h5
      go_enter Try.func8, Try.ntmps8
      go_wp2
      go_ret
      exact ⟨by rw [H.out, H1.out, H2.out, H3.out]; simp [H5.out, H6.out]; omega, HB.out⟩
end Go.Proofs.Ytidfhdkalnaddaa
