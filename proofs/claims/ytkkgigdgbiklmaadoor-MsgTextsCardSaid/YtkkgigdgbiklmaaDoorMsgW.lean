/- Numbers, written by the document. -/
import Derived.Test.YtkkgigdgbiklmaaDoorMsgE
namespace Go.Proofs.YtkkgigdgbiklmaaDoor
open Go.RowKit

theorem dec_step (u : Nat) : Lib.decDigits u = if u < 10 then [UInt8.ofNat (48 + u)] else Lib.decDigits (u / 10) ++ [UInt8.ofNat (48 + u % 10)] := by
  rw [Lib.decDigits.eq_def]
  split <;> rfl
theorem dec_len20 : ∀ (n u : Nat), u < 10 ^ (n + 1) → (Lib.decDigits u).length ≤ n + 1
  | 0, u, h => by rw [dec_step, if_pos (by simpa using h)]; simp
  | n + 1, u, h => by
    rw [dec_step]
    split
    · simp
    · have := dec_len20 n (u / 10) (by rw [Nat.div_lt_iff_lt_mul (by decide)]; rw [Nat.pow_succ] at h; exact h)
      simp; omega
theorem strL_data (x : ByteArray) : strL x.data.toList = x := by cases x; rfl
theorem dig_str (d : Nat) (h : d < 10) : (⟨#[48, 49, 50, 51, 52, 53, 54, 55, 56, 57]⟩ : ByteArray).extract d (d + 1) = strL [UInt8.ofNat (48 + d)] := by
  have d1 : ((⟨#[48, 49, 50, 51, 52, 53, 54, 55, 56, 57]⟩ : ByteArray).extract d (d + 1)).data.toList = [UInt8.ofNat (48 + d)] := dig_at ⟨d, h⟩
  rw [← d1, strL_data]
theorem dig_facts (n m q r d : Nat) (hq : n / 10 = q) (hr : n % 10 = r) (hd : r + m = d) (hm : m ≤ 1) (hb : n ≤ 9223372036854775807) :
    (n : Int) % 10 = (r : Int) ∧ (n : Int).tmod 10 = (r : Int) ∧ (n : Int) / 10 = (q : Int) ∧ (n : Int).tdiv 10 = (q : Int) ∧ (r : Int) + (m : Int) = (d : Int) ∧ wrap64 (d : Int) = (d : Int) ∧ IntKind.i64.wrap (d : Int) = (d : Int) ∧ wrap64 (q : Int) = (q : Int) ∧ IntKind.i64.wrap (q : Int) = (q : Int) :=
  ⟨by omega, by rw [Int.tmod_eq_emod_of_nonneg (by omega)]; omega, by omega, by rw [Int.tdiv_eq_ediv_of_nonneg (by omega)]; omega, by omega, by unfold wrap64; omega, IntWalk.i64_in _ (by omega), by unfold wrap64; omega, IntWalk.i64_in _ (by omega)⟩
set_option maxHeartbeats 1000000 in
theorem digits_last (n m d : Nat) (W : World) (hm : m ≤ 1) (hb : n ≤ 9223372036854775807) (hq : n / 10 = 0) (hd : n % 10 + m = d) (h10 : d < 10) (S : ByteArray) (hS : strL [UInt8.ofNat (48 + d)] = S) :
    Calls Tryd.prog 42 #[.int .i64 (n : Int), .int .i64 (m : Int)] W fun e w' => e = .returned (.string S) ∧ W = w' := by
  obtain ⟨r, hr⟩ : ∃ r, n % 10 = r := ⟨_, rfl⟩
  obtain ⟨e1, e2, e3, e4, e5, e6, e7, e8, e9⟩ := dig_facts n m 0 r d hq hr (by omega) hm hb
  have hx := dig_str d h10
  rw [hS] at hx
  clear hq hd hr hS hm hb
  have h10i : ¬ (d : Int) = 10 := by omega
  have h10b : ((d : Int) == 10) = false := by simpa using h10i
  have c1 : (0 : Int) ≤ (d : Int) := by omega
  have c2 : (d : Int) + 1 ≤ 10 := by omega
  go_enter Tryd.func42, Tryd.ntmps42
  go_wp2_with fail
  go_ret
  exact ⟨rfl, rfl⟩
set_option maxHeartbeats 1000000 in
theorem digits_ten (n m q : Nat) (W : World) (hm : m ≤ 1) (hb : n ≤ 9223372036854775807) (hq : n / 10 = q) (hd : n % 10 + m = 10) (S0 S : ByteArray)
    (hc : Calls Tryd.prog 42 #[.int .i64 (q : Int), .int .i64 1] W fun e w' => e = .returned (.string S0) ∧ W = w')
    (hS : ∀ w, (Op.stringOp .add S0 ⟨#[48]⟩).run Tryd.prog w = .ok (.string S) w) :
    Calls Tryd.prog 42 #[.int .i64 (n : Int), .int .i64 (m : Int)] W fun e w' => e = .returned (.string S) ∧ W = w' := by
  obtain ⟨r, hr⟩ : ∃ r, n % 10 = r := ⟨_, rfl⟩
  obtain ⟨e1, e2, e3, e4, e5, e6, e7, e8, e9⟩ := dig_facts n m q r 10 hq hr (by omega) hm hb
  have HC := Lib.hid hc
  replace e5 : (r : Int) + (m : Int) = 10 := e5
  replace e6 : wrap64 10 = 10 := by unfold wrap64; omega
  clear e7
  clear hq hd hr hm hc hb
  go_enter Tryd.func42, Tryd.ntmps42
  go_wp2_with fail
  refine HC.out.mono ?_
  rintro e w1 ⟨rfl, rfl⟩
  go_wp2_with fail
  go_ret
  exact ⟨rfl, rfl⟩
set_option maxHeartbeats 1000000 in
theorem digits_more (n m q d : Nat) (W : World) (hm : m ≤ 1) (hb : n ≤ 9223372036854775807) (hq : n / 10 = q) (hq0 : q ≠ 0) (hd : n % 10 + m = d) (h10 : d < 10) (S0 S1 S : ByteArray)
    (hc : Calls Tryd.prog 42 #[.int .i64 (q : Int), .int .i64 0] W fun e w' => e = .returned (.string S0) ∧ W = w') (h1 : strL [UInt8.ofNat (48 + d)] = S1)
    (hS : ∀ w, (Op.stringOp .add S0 S1).run Tryd.prog w = .ok (.string S) w) :
    Calls Tryd.prog 42 #[.int .i64 (n : Int), .int .i64 (m : Int)] W fun e w' => e = .returned (.string S) ∧ W = w' := by
  have hqi : ¬ (q : Int) = 0 := fun h => hq0 (Int.ofNat_eq_zero.1 h)
  obtain ⟨r, hr⟩ : ∃ r, n % 10 = r := ⟨_, rfl⟩
  obtain ⟨e1, e2, e3, e4, e5, e6, e7, e8, e9⟩ := dig_facts n m q r d hq hr (by omega) hm hb
  have hx := dig_str d h10
  rw [h1] at hx
  have HC := Lib.hid hc
  have hqb : ((q : Int) == 0) = false := by simpa using hqi
  clear hq hd hr hm hc h1 hq0 hb
  have h10i : ¬ (d : Int) = 10 := by omega
  have h10b : ((d : Int) == 10) = false := by simpa using h10i
  have c1 : (0 : Int) ≤ (d : Int) := by omega
  have c2 : (d : Int) + 1 ≤ 10 := by omega
  go_enter Tryd.func42, Tryd.ntmps42
  go_wp2_with fail
  refine HC.out.mono ?_
  rintro e w1 ⟨rfl, rfl⟩
  as_aux_lemma =>
    go_wp2_with fail
    go_ret
    exact ⟨rfl, rfl⟩
theorem digits_any : ∀ (N n m : Nat) (W : World), n ≤ N → m ≤ 1 → n ≤ 9223372036854775807 →
    Calls Tryd.prog 42 #[.int .i64 (n : Int), .int .i64 (m : Int)] W fun e w' => e = .returned (.string (strL (Lib.decDigits (n + m)))) ∧ W = w' := by
  intro N
  induction N with
  | zero =>
    intro n m W hn hm _
    obtain rfl : n = 0 := by omega
    exact digits_last 0 m m W hm (by omega) rfl (by omega) (by omega) _ (by rw [Nat.zero_add, Lib.decDigits_one (by omega)])
  | succ N ih =>
    intro n m W hn hm hb
    by_cases h10 : n % 10 + m = 10
    · have hlen : (Lib.decDigits (n / 10 + 1)).length ≤ 20 := dec_len20 19 _ (by omega)
      refine digits_ten n m (n / 10) W hm hb rfl h10 _ _ (ih (n / 10) 1 W (by omega) (by omega) (by omega)) (fun w => ?_)
      have hs := strL_add w (Lib.decDigits (n / 10 + 1)) ⟨#[48]⟩ (by show _ + 1 ≤ _; omega)
      rw [hs, dec_step (n + m), if_neg (by omega), show (n + m) / 10 = n / 10 + 1 by omega, show (n + m) % 10 = 0 by omega]
      rfl
    · by_cases hq : n / 10 = 0
      · exact digits_last n m _ W hm hb hq rfl (by omega) _ (by rw [dec_step (n + m), if_pos (by omega), show n % 10 + m = n + m by omega])
      · have hlen : (Lib.decDigits (n / 10)).length ≤ 20 := dec_len20 19 _ (by omega)
        have ih0 := ih (n / 10) 0 W (by omega) (by omega) (by omega)
        rw [Nat.add_zero] at ih0
        refine digits_more n m (n / 10) _ W hm hb rfl hq rfl (by omega) _ _ _ ih0 rfl (fun w => ?_)
        have hs := strL_add w (Lib.decDigits (n / 10)) (strL [UInt8.ofNat (48 + (n % 10 + m))]) (by rw [strL_size]; simp; omega)
        rw [hs, dec_step (n + m), if_neg (by omega), show (n + m) / 10 = n / 10 by omega, show (n + m) % 10 = n % 10 + m by omega]
        rfl
theorem itoa_len (n : Int) (h : -9223372036854775808 ≤ n ∧ n < 9223372036854775808) : (Lib.itoa n).length ≤ 21 := by
  unfold Lib.itoa
  split
  · have := dec_len20 19 n.natAbs (by omega)
    simp; omega
  · have := dec_len20 19 n.toNat (by omega)
    omega
set_option maxHeartbeats 2000000 in
theorem num_any (n : Int) (W : World) (h : -9223372036854775808 ≤ n ∧ n < 9223372036854775808) :
    Calls Tryd.prog 29 #[.int .i64 n] W fun e w' => e = .returned (.string (strL (Lib.itoa n))) ∧ W = w' := by
  by_cases h0 : n < 0
  · obtain ⟨u, hu⟩ : ∃ u : Nat, n = -((u : Int) + 1) := ⟨(-(n + 1)).toNat, by omega⟩
    have HS : Hid (Lib.itoa n = 45 :: Lib.decDigits (u + 1)) := Lib.hid (by
      rw [hu, show -((u : Int) + 1) = -((u + 1 : Nat) : Int) by omega]; exact Lib.itoa_neg (u + 1) (by omega))
    rw [HS.out]
    have hs : IntKind.i64.wrap (n + 1) = -(u : Int) := by rw [show n + 1 = -(u : Int) by omega]; exact IntWalk.i64_in _ (by omega)
    have hs2 : n + 1 = -(u : Int) := by omega
    have hs3 : IntKind.i64.wrap (-(u : Int)) = -(u : Int) := IntWalk.i64_in _ (by omega)
    have hs4 : IntKind.i64.wrap (u : Int) = (u : Int) := IntWalk.i64_in _ (by omega)
    have hs5 : wrap64 (-(u : Int)) = -(u : Int) := by unfold wrap64; omega
    have hs6 : wrap64 (u : Int) = (u : Int) := by unfold wrap64; omega
    have hlen : (Lib.decDigits (u + 1)).length ≤ 20 := dec_len20 19 _ (by omega)
    have hz : ∀ w, (Op.stringOp .add ⟨#[45]⟩ (strL (Lib.decDigits (u + 1)))).run Tryd.prog w = .ok (.string (strL (45 :: Lib.decDigits (u + 1)))) w := fun w => strL_add w [45] (strL (Lib.decDigits (u + 1))) (by rw [strL_size]; simp; omega)
    have ID := Lib.hid (digits_any u u 1 W (Nat.le_refl _) (by omega) (by omega))
    generalize strL (45 :: Lib.decDigits (u + 1)) = S1 at *
    generalize strL (Lib.decDigits (u + 1)) = S0 at *
    clear hu hlen
    go_enter Tryd.func29, Tryd.ntmps29
    go_wp2_with fail
    refine ID.out.mono ?_
    rintro e w1 ⟨rfl, rfl⟩
    go_wp2_with fail
    go_ret
    exact ⟨rfl, rfl⟩
  · obtain ⟨u, rfl⟩ := Int.eq_ofNat_of_zero_le (show 0 ≤ n by omega)
    rw [show Lib.itoa (u : Int) = Lib.decDigits (u + 0) from Lib.itoa_nonneg u]
    have ID := Lib.hid (digits_any u u 0 W (Nat.le_refl _) (by omega) (by omega))
    have h1 : ¬ (u : Int) < 0 := by omega
    go_enter Tryd.func29, Tryd.ntmps29
    go_wp2_with fail
    refine ID.out.mono ?_
    rintro e w1 ⟨rfl, rfl⟩
    go_wp2_with fail
    go_ret
    exact ⟨rfl, rfl⟩
end Go.Proofs.YtkkgigdgbiklmaaDoor
