/- The laws' own first function; FramesMake. -/
import Derived.Test.YtihmeehcjdgfgaaFrD
namespace Go.Proofs.Ytihmeehcjdgfgaa
open Go.RowKit Go.Maps

theorem below_step {B : Nat} {w w1 w2 : World} {F : Nat → Prop} (h : Below B w w1) (k : Keeps F w1 w2) (hF : ∀ i, F i → B ≤ i) (hB : B ≤ w1.heap.size) : Below B w w2 := h.trans (k.below hF hB)
set_option maxHeartbeats 4000000 in
theorem first_ok (w : World) :
    Calls Try.prog 6 #[] w fun e w' => e = .returned (.bool true) ∧ Below w.heap.size w w' := by
  go_enter Try.func6, Try.ntmps6
  go_wp2_with fail
  refine (new_yes 2 3 _ (by decide) (by decide) (by decide) (by decide)).mono ?_
  rintro e w1 ⟨rfl, hs, hb⟩
  have HS1 := Lib.hid hs
  have HB1 := Lib.hid hb
  have HF : Hid (∀ k, (fun g => g = w.heap.size ∨ g = w.heap.size + 1) k → w.heap.size ≤ k) := Lib.hid (fun k hk => by rcases hk with rfl | rfl <;> omega)
  clear hs hb
  generalize (fun g => g = w.heap.size ∨ g = w.heap.size + 1) = F at HS1 HF
  go_wp2_with fail
  refine (take_next _ F ⟨2, 2, 2 + 3, [], []⟩ _ HS1.out rfl (by decide) (by decide) (by decide) (by decide) (by decide)).mono ?_
  rintro e w2 ⟨rfl, hs, hk⟩
  have HS2 := Lib.hid hs
  have HB2 := Lib.hid (below_step HB1.out hk HF.out HB1.out.size)
  clear hs hk HS1 HB1
  go_wp2_with fail
  refine (take_next _ F ⟨2, 3, 5, [], [2]⟩ _ HS2.out rfl (by decide) (by decide) (by decide) (by decide) (by decide)).mono ?_
  rintro e w3 ⟨rfl, hs, hk⟩
  have HS3 := Lib.hid hs
  have HB3 := Lib.hid (below_step HB2.out hk HF.out HB2.out.size)
  clear hs hk HS2 HB2
  go_wp2_with fail
  refine (give_ok _ F ⟨2, 4, 5, [], [3, 2]⟩ 2 _ HS3.out (by decide) (by decide) (by decide)).mono ?_
  rintro e w4 ⟨rfl, F', hs, hF', hk⟩
  have HS4 := Lib.hid hs
  have HB4 := Lib.hid (below_step HB3.out hk HF.out HB3.out.size)
  have HF' : Hid (∀ k, F' k → w.heap.size ≤ k) := Lib.hid (fun k hk => (hF' k hk).elim (HF.out k) (fun h => Nat.le_trans HB3.out.size h))
  clear hs hk hF' HS3 HB3 HF
  have HF := HF'
  clear HF'
  go_wp2_with fail
  refine (take_given _ F' ⟨2, 4, 5, [2], [3]⟩ [] 2 _ HS4.out rfl (by decide) (by decide) (by decide) (by decide)).mono ?_
  rintro e w5 ⟨rfl, hs, hk⟩
  have HS5 := Lib.hid hs
  have HB5 := Lib.hid (below_step HB4.out hk HF.out HB4.out.size)
  clear hs hk HS4 HB4
  go_wp2_with fail
  refine (take_next _ F' ⟨2, 4, 5, [], [2, 3]⟩ _ HS5.out rfl (by decide) (by decide) (by decide) (by decide) (by decide)).mono ?_
  rintro e w6 ⟨rfl, hs, hk⟩
  have HS6 := Lib.hid hs
  have HB6 := Lib.hid (below_step HB5.out hk HF.out HB5.out.size)
  clear hs hk HS5 HB5
  go_wp2_with fail
  refine (take_full _ F' ⟨2, 5, 5, [], [4, 2, 3]⟩ _ HS6.out rfl (by decide)).mono ?_
  rintro e w7 ⟨rfl, hs, hk⟩
  have HS7 := Lib.hid hs
  have HB7 := Lib.hid (below_step HB6.out hk HF.out HB6.out.size)
  clear hs hk HS6 HB6
  go_wp2_with fail
  refine (give_none _ F' ⟨2, 5, 5, [], [4, 2, 3]⟩ 9 _ HS7.out (by decide) (by decide)).mono ?_
  rintro e w' ⟨rfl, rfl⟩
  go_wp2
  go_ret
  exact ⟨rfl, HB7.out⟩
namespace Law
set_option maxHeartbeats 4000000 in
theorem make_yes (f n : Int) (W : World) (h1 : 0 ≤ f) (h2 : f ≤ 1048576) (h3 : 0 ≤ n) (h4 : n ≤ 1048576 - f) :
    Calls Try.prog 4 #[.int .i64 f, .int .i64 n] W fun e w' => e = .returned (.bool true) ∧ Below W.heap.size W w' := by
  have e1 : decide (0 ≤ f) = true := by simpa using h1
  have e2 : decide (f ≤ 1048576) = true := by simpa using h2
  have e3 : decide (0 ≤ n) = true := by simpa using h3
  have e4 : decide (n ≤ 1048576) = true := by simp; omega
  have e5 : decide (f + n ≤ 1048576) = true := by simp; omega
  have HN : Hid (f + n - f + ((([] : List Int).length : Nat) : Int) = n) := Lib.hid (by simp; omega)
  have HW := Lib.hid (fwf (f := f) (by omega))
  go_enter Try.func4, Try.ntmps4
  go_wp2_with fail
  refine (first_ok _).mono ?_
  rintro e w1 ⟨rfl, hb⟩
  have HB1 := Lib.hid hb
  clear hb
  go_wp2_with fail
  refine (new_yes f n _ h1 h2 h3 h4).mono ?_
  rintro e w2 ⟨rfl, hs, hb⟩
  have HS2 := Lib.hid hs
  have HB2 := Lib.hid (HB1.out.trans (hb.mono HB1.out.size))
  clear hs hb
  go_wp2_with fail
  refine (free_any _ _ _ _ HS2.out h1 (by simp; omega) (by simp; omega) (by simp)).mono ?_
  rintro e w' ⟨rfl, rfl⟩
  have HS3 := Lib.hid (HS2.out.keeps ((Keeps.refl (fun _ => False) w2).drew) (fun _ _ h => h))
  rw [show (⟨f, f, f + n, [], []⟩ : SV).end_ - (⟨f, f, f + n, [], []⟩ : SV).next + (((⟨f, f, f + n, [], []⟩ : SV).given.length : Nat) : Int) = n from HN.out]
  go_wp2_with fail
  refine (used_any _ _ _ _ HS3.out).mono ?_
  rintro e w' ⟨rfl, rfl⟩
  rw [show (((⟨f, f, f + n, [], []⟩ : SV).taken.length : Nat) : Int) = 0 from rfl]
  go_wp2_with fail
  refine (taken_any _ _ _ f _ HS3.out HW.out).mono ?_
  rintro e w' ⟨rfl, rfl⟩
  rw [show decide (f ∈ (⟨f, f, f + n, [], []⟩ : SV).taken) = false by simp]
  go_wp2
  go_ret
  exact ⟨by simp, HB2.out.drew⟩
set_option maxHeartbeats 8000000 in
theorem make_no (f n : Int) (W : World) (hf : (Lit.int .i64 f).wf = true) (h : ¬ (0 ≤ f ∧ f ≤ 1048576 ∧ 0 ≤ n ∧ n ≤ 1048576 - f)) :
    Calls Try.prog 4 #[.int .i64 f, .int .i64 n] W fun e w' => e = .returned (.bool true) ∧ Below W.heap.size W w' := by
  have HNO := Lib.hid h
  have HW := Lib.hid hf
  clear hf
  by_cases h1 : 0 ≤ f
  · have e1 : decide (0 ≤ f) = true := by simpa using h1
    by_cases h2 : f ≤ 1048576
    · have e2 : decide (f ≤ 1048576) = true := by simpa using h2
      by_cases h3 : 0 ≤ n
      · have e3 : decide (0 ≤ n) = true := by simpa using h3
        by_cases h4 : n ≤ 1048576
        · have e4 : decide (n ≤ 1048576) = true := by simpa using h4
          have e5 : decide (f + n ≤ 1048576) = false := by simp; omega
          clear h
          go_enter Try.func4, Try.ntmps4
          go_wp2_with fail
          refine (first_ok _).mono ?_
          rintro e w1 ⟨rfl, hb⟩
          have HB1 := Lib.hid hb
          clear hb
          go_wp2_with fail
          refine (new_no f n _ HW.out HNO.out).mono ?_
          rintro e w' ⟨rfl, rfl⟩
          go_wp2_with fail
          refine (take_nil _).mono ?_
          rintro e w' ⟨rfl, rfl⟩
          go_wp2_with fail
          refine (give_nil _ _).mono ?_
          rintro e w' ⟨rfl, rfl⟩
          go_wp2_with fail
          refine (taken_nil _ _).mono ?_
          rintro e w' ⟨rfl, rfl⟩
          go_wp2_with fail
          refine (free_nil _).mono ?_
          rintro e w' ⟨rfl, rfl⟩
          go_wp2_with fail
          refine (used_nil _).mono ?_
          rintro e w' ⟨rfl, rfl⟩
          go_wp2
          go_ret
          exact ⟨rfl, HB1.out⟩
        · have e4 : decide (n ≤ 1048576) = false := by simpa using h4
          clear h h4
          go_enter Try.func4, Try.ntmps4
          go_wp2_with fail
          refine (first_ok _).mono ?_
          rintro e w1 ⟨rfl, hb⟩
          have HB1 := Lib.hid hb
          clear hb
          go_wp2_with fail
          refine (new_no f n _ HW.out HNO.out).mono ?_
          rintro e w' ⟨rfl, rfl⟩
          go_wp2_with fail
          refine (take_nil _).mono ?_
          rintro e w' ⟨rfl, rfl⟩
          go_wp2_with fail
          refine (give_nil _ _).mono ?_
          rintro e w' ⟨rfl, rfl⟩
          go_wp2_with fail
          refine (taken_nil _ _).mono ?_
          rintro e w' ⟨rfl, rfl⟩
          go_wp2_with fail
          refine (free_nil _).mono ?_
          rintro e w' ⟨rfl, rfl⟩
          go_wp2_with fail
          refine (used_nil _).mono ?_
          rintro e w' ⟨rfl, rfl⟩
          go_wp2
          go_ret
          exact ⟨rfl, HB1.out⟩
      · have e3 : decide (0 ≤ n) = false := by simpa using h3
        clear h h3
        go_enter Try.func4, Try.ntmps4
        go_wp2_with fail
        refine (first_ok _).mono ?_
        rintro e w1 ⟨rfl, hb⟩
        have HB1 := Lib.hid hb
        clear hb
        go_wp2_with fail
        refine (new_no f n _ HW.out HNO.out).mono ?_
        rintro e w' ⟨rfl, rfl⟩
        go_wp2_with fail
        refine (take_nil _).mono ?_
        rintro e w' ⟨rfl, rfl⟩
        go_wp2_with fail
        refine (give_nil _ _).mono ?_
        rintro e w' ⟨rfl, rfl⟩
        go_wp2_with fail
        refine (taken_nil _ _).mono ?_
        rintro e w' ⟨rfl, rfl⟩
        go_wp2_with fail
        refine (free_nil _).mono ?_
        rintro e w' ⟨rfl, rfl⟩
        go_wp2_with fail
        refine (used_nil _).mono ?_
        rintro e w' ⟨rfl, rfl⟩
        go_wp2
        go_ret
        exact ⟨rfl, HB1.out⟩
    · have e2 : decide (f ≤ 1048576) = false := by simpa using h2
      clear h h2
      go_enter Try.func4, Try.ntmps4
      go_wp2_with fail
      refine (first_ok _).mono ?_
      rintro e w1 ⟨rfl, hb⟩
      have HB1 := Lib.hid hb
      clear hb
      go_wp2_with fail
      refine (new_no f n _ HW.out HNO.out).mono ?_
      rintro e w' ⟨rfl, rfl⟩
      go_wp2_with fail
      refine (take_nil _).mono ?_
      rintro e w' ⟨rfl, rfl⟩
      go_wp2_with fail
      refine (give_nil _ _).mono ?_
      rintro e w' ⟨rfl, rfl⟩
      go_wp2_with fail
      refine (taken_nil _ _).mono ?_
      rintro e w' ⟨rfl, rfl⟩
      go_wp2_with fail
      refine (free_nil _).mono ?_
      rintro e w' ⟨rfl, rfl⟩
      go_wp2_with fail
      refine (used_nil _).mono ?_
      rintro e w' ⟨rfl, rfl⟩
      go_wp2
      go_ret
      exact ⟨rfl, HB1.out⟩
  · have e1 : decide (0 ≤ f) = false := by simpa using h1
    clear h h1
    go_enter Try.func4, Try.ntmps4
    go_wp2_with fail
    refine (first_ok _).mono ?_
    rintro e w1 ⟨rfl, hb⟩
    have HB1 := Lib.hid hb
    clear hb
    go_wp2_with fail
    refine (new_no f n _ HW.out HNO.out).mono ?_
    rintro e w' ⟨rfl, rfl⟩
    go_wp2_with fail
    refine (take_nil _).mono ?_
    rintro e w' ⟨rfl, rfl⟩
    go_wp2_with fail
    refine (give_nil _ _).mono ?_
    rintro e w' ⟨rfl, rfl⟩
    go_wp2_with fail
    refine (taken_nil _ _).mono ?_
    rintro e w' ⟨rfl, rfl⟩
    go_wp2_with fail
    refine (free_nil _).mono ?_
    rintro e w' ⟨rfl, rfl⟩
    go_wp2_with fail
    refine (used_nil _).mono ?_
    rintro e w' ⟨rfl, rfl⟩
    go_wp2
    go_ret
    exact ⟨rfl, HB1.out⟩
theorem FramesMake (f n : Int) (W : World) (hf : (Lit.int .i64 f).wf = true) (_ : (Lit.int .i64 n).wf = true) :
    Calls Try.prog 4 #[.int .i64 f, .int .i64 n] W fun e w' => e = .returned (.bool true) ∧ Below W.heap.size W w' := by
  by_cases h : 0 ≤ f ∧ f ≤ 1048576 ∧ 0 ≤ n ∧ n ≤ 1048576 - f
  · exact make_yes f n W h.1 h.2.1 h.2.2.1 h.2.2.2
  · exact make_no f n W hf h
end Law
end Go.Proofs.Ytihmeehcjdgfgaa
