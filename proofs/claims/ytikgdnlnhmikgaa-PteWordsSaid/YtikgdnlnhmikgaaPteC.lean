/- Contracts: the reference's Join; Leaf, Right; flags; Put. -/
import Derived.Test.YtikgdnlnhmikgaaPteB
namespace Go.Proofs.Ytikgdnlnhmikgaa
open Go.RowKit

theorem at_eq (ppn : Nat) : ppn % 4503599627370496 * 4096 = ppn * 4096 % 18446744073709551616 := by omega
theorem rjoin_fin12 (ppn va : Nat) : IntKind.u64.wrap (IntKind.u64.wrap ((ppn : Int) * 4096 % 18446744073709551616 - ((ppn : Int) * 4096 % 18446744073709551616).tmod 4096) + (va : Int).tmod 4096) = ((ppn * 4096 % 18446744073709551616 / 4096 * 4096 + va % 4096 : Nat) : Int) := by
  rw [Int.tmod_eq_emod_of_nonneg (by omega), Int.tmod_eq_emod_of_nonneg (by omega), IntKind.wrap_u64, IntKind.wrap_u64]
  omega
theorem rjoin_fin21 (ppn va : Nat) : IntKind.u64.wrap (IntKind.u64.wrap ((ppn : Int) * 4096 % 18446744073709551616 - ((ppn : Int) * 4096 % 18446744073709551616).tmod 2097152) + (va : Int).tmod 2097152) = ((ppn * 4096 % 18446744073709551616 / 2097152 * 2097152 + va % 2097152 : Nat) : Int) := by
  rw [Int.tmod_eq_emod_of_nonneg (by omega), Int.tmod_eq_emod_of_nonneg (by omega), IntKind.wrap_u64, IntKind.wrap_u64]
  omega
theorem rjoin_fin30 (ppn va : Nat) : IntKind.u64.wrap (IntKind.u64.wrap ((ppn : Int) * 4096 % 18446744073709551616 - ((ppn : Int) * 4096 % 18446744073709551616).tmod 1073741824) + (va : Int).tmod 1073741824) = ((ppn * 4096 % 18446744073709551616 / 1073741824 * 1073741824 + va % 1073741824 : Nat) : Int) := by
  rw [Int.tmod_eq_emod_of_nonneg (by omega), Int.tmod_eq_emod_of_nonneg (by omega), IntKind.wrap_u64, IntKind.wrap_u64]
  omega
theorem rjoin_any (ppn va : Nat) (n : Int) (w : World) (hp : ppn < 18446744073709551616) (hv : va < 18446744073709551616) :
    Calls Try.prog 24 #[.int .u64 ppn, .int .u64 va, .int .i64 n] w fun e w' => e = .returned (.int .u64 ((joinV ppn va n : Nat) : Int)) ∧ Below w.heap.size w w' := by
  rcases Bool.eq_false_or_eq_true (levelB n) with h1 | h1
  · have e1 : IntKind.u64.wrap (((ppn : Int) % 4503599627370496) * 4096) = ((ppn * 4096 % 18446744073709551616 : Nat) : Int) := by
      rw [← at_eq, IntWalk.u64_in _ (by omega)]; omega
    have hx : ppn * 4096 % 18446744073709551616 < 18446744073709551616 := Nat.mod_lt _ (by decide)
    rcases level_cases h1 with rfl | rfl | rfl
    all_goals
      have H1 := Lib.hid h1
      have HV := Lib.hid hv
      have HP := Lib.hid hp
      clear h1 hv hp
      go_enter Try.func24, Try.ntmps24
      go_wp2_with (first | (go_at_call 33; refine (rlevel_any _ _).mono ?_; rintro e w' ⟨rfl, rfl⟩; rw [H1.out]) | (go_at_call 31; refine (pow_any _ _ (by decide) (by decide)).mono ?_; rintro e w' ⟨rfl, rfl⟩; rw [show ((2 ^ (52 : Int).toNat : Nat) : Int) = 4503599627370496 from rfl]))
      refine wp_region_plan [(0, false), (1, false), (2, false), (6, false), (7, false), (3, true), (4, false), (5, false), (8, true), (9, false), (10, false), (11, false)] (by kernel_rfl) (by kernel_rfl) (fun _ d _ _ _ h => by cases d <;> exact h) ?_
      iterate 5 (refine plan_take (v := ?_) rfl (by kernel_rfl) ?_ ?_; rotate_left; (focus (intro w' hw'; go_simp; try with_reducible rfl)); simp only [Act.put, List.setIfInBounds_toArray, List.set_cons_zero, List.set_cons_succ])
      refine plan_call rfl (by kernel_rfl) (by go_simp; exact ⟨rfl, rfl⟩) ?_
      refine (rspan_any _ _).mono ?_
      rintro e w' ⟨rfl, rfl⟩
      first | rw [show ((spanV 0 : Nat) : Int) = 4096 from rfl] | rw [show ((spanV 1 : Nat) : Int) = 2097152 from rfl] | rw [show ((spanV 2 : Nat) : Int) = 1073741824 from rfl]
      refine ⟨_, rfl, Ext.refl _, ?_⟩
      simp only [Act.put, List.setIfInBounds_toArray, List.set_cons_zero, List.set_cons_succ]
      iterate 2 (refine plan_take (v := ?_) rfl (by kernel_rfl) ?_ ?_; rotate_left; (focus (intro w' hw'; go_simp; try with_reducible rfl)); simp only [Act.put, List.setIfInBounds_toArray, List.set_cons_zero, List.set_cons_succ])
      refine plan_call rfl (by kernel_rfl) (by go_simp; exact ⟨rfl, rfl⟩) ?_
      refine (rspan_any _ _).mono ?_
      rintro e w' ⟨rfl, rfl⟩
      first | rw [show ((spanV 0 : Nat) : Int) = 4096 from rfl] | rw [show ((spanV 1 : Nat) : Int) = 2097152 from rfl] | rw [show ((spanV 2 : Nat) : Int) = 1073741824 from rfl]
      refine ⟨_, rfl, Ext.refl _, ?_⟩
      simp only [Act.put, List.setIfInBounds_toArray, List.set_cons_zero, List.set_cons_succ]
      iterate 3 (refine plan_take (v := ?_) rfl (by kernel_rfl) ?_ ?_; rotate_left; (focus (intro w' hw'; go_simp; try with_reducible rfl)); simp only [Act.put, List.setIfInBounds_toArray, List.set_cons_zero, List.set_cons_succ])
      refine plan_end ?_
      go_wp2
      go_ret
      refine ⟨?_, (Below.refl _ _).drew⟩
      first
      | exact congrArg (fun x => Ending.returned (.int .u64 x)) (rjoin_fin12 ppn va)
      | exact congrArg (fun x => Ending.returned (.int .u64 x)) (rjoin_fin21 ppn va)
      | exact congrArg (fun x => Ending.returned (.int .u64 x)) (rjoin_fin30 ppn va)
  · have H1 := Lib.hid h1
    clear h1
    go_enter Try.func24, Try.ntmps24
    go_wp2_with (go_at_call 33; refine (rlevel_any _ _).mono ?_; rintro e w' ⟨rfl, rfl⟩; rw [H1.out])
    go_ret
    exact ⟨by rw [joinV, H1.out]; rfl, Below.refl _ _⟩

/-! Entries. -/
structure Pte where
  v : Bool
  r : Bool
  w : Bool
  x : Bool
  u : Bool
  g : Bool
  a : Bool
  d : Bool
  rsw : Int
  ppn : Int
def Pte.val (p : Pte) : Value := .agg #[.bool p.v, .bool p.r, .bool p.w, .bool p.x, .bool p.u, .bool p.g, .bool p.a, .bool p.d, .int .i64 p.rsw, .int .u64 p.ppn]

theorem leaf_any (v r w x u g a d : Bool) (rsw ppn : Int) (W : World) :
    Calls Try.prog 25 #[.agg #[.bool v, .bool r, .bool w, .bool x, .bool u, .bool g, .bool a, .bool d, .int .i64 rsw, .int .u64 ppn]] W fun e w' => e = .returned (.bool (r || x)) ∧ Below W.heap.size W w' := by
  cases r
  all_goals
    go_enter Try.func25, Try.ntmps25
    go_wp2
    go_ret
    exact ⟨rfl, (Below.refl _ _).alloc (Nat.le_refl _) _⟩
theorem right_any (v r w x u g a d : Bool) (rsw ppn : Int) (W : World) :
    Calls Try.prog 26 #[.agg #[.bool v, .bool r, .bool w, .bool x, .bool u, .bool g, .bool a, .bool d, .int .i64 rsw, .int .u64 ppn]] W fun e w' => e = .returned (.bool (v && (r || !w))) ∧ Below W.heap.size W w' := by
  cases v <;> cases r
  all_goals
    go_enter Try.func26, Try.ntmps26
    go_wp2
    go_ret
    exact ⟨rfl, (Below.refl _ _).alloc (Nat.le_refl _) _⟩

theorem flags_any (v r w x u g a d : Bool) (rsw ppn : Int) (W : World) :
    Calls Try.prog 29 #[.agg #[.bool v, .bool r, .bool w, .bool x, .bool u, .bool g, .bool a, .bool d, .int .i64 rsw, .int .u64 ppn]] W fun e w' => e = .returned (.agg #[.bool v, .bool r, .bool w, .bool x, .bool u, .bool g, .bool a, .bool d]) ∧ Below W.heap.size W w' := by
  go_enter Try.func29, Try.ntmps29
  go_wp2
  exact bodyPost_ret (v := .agg #[.bool v, .bool r, .bool w, .bool x, .bool u, .bool g, .bool a, .bool d]) (by simp [results, Try.results29, go_sem]) rfl ⟨rfl, by go_grown⟩

def bt (b : Bool) : Nat := if b then 1 else 0
/-- The word of an entry. -/
def putV (v r w x u g a d : Bool) (rsw ppn : Int) : Nat :=
  bt v + 2 * bt r + 4 * bt w + 8 * bt x + 16 * bt u + 32 * bt g + 64 * bt a + 128 * bt d + 256 * (rsw % 4).toNat + 1024 * (ppn.toNat % 17592186044416)

def lowL (l : List Bool) : Nat → Nat
  | 0 => 0
  | j + 1 => lowL l j + 2 ^ j * bt (l.getD j false)
theorem lowL_lt (l : List Bool) : ∀ j, lowL l j < 2 ^ j
  | 0 => by simp [lowL]
  | j + 1 => by
    have := lowL_lt l j
    have hb : 2 ^ j * bt (l.getD j false) ≤ 2 ^ j := by unfold bt; split <;> simp
    rw [lowL, Nat.pow_succ]
    omega
theorem or_pow (x i : Nat) (h : x / 2 ^ i % 2 = 0) : x ||| 2 ^ i = x + 2 ^ i := by
  have hp := Nat.two_pow_pos i
  have h1 : (x ||| 2 ^ i) % 2 ^ i = x % 2 ^ i := by rw [Nat.or_mod_two_pow, Nat.mod_self, Nat.or_zero]
  have h2 : (x ||| 2 ^ i) / 2 ^ i = x / 2 ^ i + 1 := by
    rw [Nat.or_div_two_pow, Nat.div_self hp]
    have := or_low (x / 2 ^ i / 2) 1 1 (by decide)
    rw [show x / 2 ^ i / 2 * 2 ^ 1 = x / 2 ^ i by omega] at this
    exact this
  have h3 := Nat.div_add_mod (x ||| 2 ^ i) (2 ^ i)
  have h4 := Nat.div_add_mod x (2 ^ i)
  rw [h1, h2, Nat.mul_add] at h3
  omega
def baseV (rsw ppn : Int) : Nat := 256 * (rsw % 4).toNat + 1024 * (ppn.toNat % 17592186044416)
theorem baseV_lt (rsw ppn : Int) : baseV rsw ppn < 18014398509481984 := by unfold baseV; omega
theorem i64_and3 (n : Int) : bits .and .i64 n 3 = n % 4 := by
  show IntKind.i64.wrap ((BitVec.ofInt 64 n &&& BitVec.ofInt 64 3).toNat : Int) = n % 4
  have e : (BitVec.ofInt 64 n &&& BitVec.ofInt 64 3).toNat = (n % 18446744073709551616).toNat % 4 := by
    rw [BitVec.toNat_and, show (BitVec.ofInt 64 3).toNat = 2 ^ 2 - 1 from rfl, Nat.and_two_pow_sub_one_eq_mod, BitVec.toNat_ofInt]
    rfl
  rw [e, IntKind.wrap_i64]
  omega
theorem base_eq (rsw ppn : Int) (hp : 0 ≤ ppn ∧ ppn < 18446744073709551616) :
    bits .or .u64 (IntKind.u64.wrap (bits .and .u64 ppn 17592186044415 * 1024)) (IntKind.u64.wrap (IntKind.u64.wrap (bits .and .i64 rsw 3) * 256)) = ((baseV rsw ppn : Nat) : Int) := by
  obtain ⟨P, rfl⟩ := Int.eq_ofNat_of_zero_le hp.1
  rw [and_mask P 44 17592186044415 (by decide) rfl (by omega), i64_and3]
  have hP : P % 2 ^ 44 < 17592186044416 := Nat.mod_lt _ (by decide)
  unfold baseV
  rw [show (P : Int).toNat = P from rfl, show (17592186044416 : Nat) = 2 ^ 44 from rfl]
  generalize P % 2 ^ 44 = q at *
  rw [IntWalk.u64_in ((q : Int) * 1024) (by omega), IntWalk.u64_in (rsw % 4) (by omega), IntWalk.u64_in (rsw % 4 * 256) (by omega)]
  have e1 : (q : Int) * 1024 = ((q * 2 ^ 10 : Nat) : Int) := by omega
  have e2 : rsw % 4 * 256 = ((256 * (rsw % 4).toNat : Nat) : Int) := by omega
  rw [e1, e2, bits_or_u64_nat _ _ (by omega) (by omega), or_low q _ 10 (by omega)]
  omega
theorem put_round (l : List Bool) (rsw ppn : Int) (j : Nat) (hj : j < 8) (hb : l.getD j false = true) :
    bits .or .u64 ((baseV rsw ppn + lowL l j : Nat) : Int) ((2 ^ j : Nat) : Int) = ((baseV rsw ppn + lowL l (j + 1) : Nat) : Int) := by
  have h1 := lowL_lt l j
  have h2 := baseV_lt rsw ppn
  have h3 : 2 ^ j ≤ 2 ^ 7 := Nat.pow_le_pow_right (by decide) (by omega)
  have h4 : baseV rsw ppn % 2 ^ (j + 1) = 0 := by
    have : baseV rsw ppn % 256 = 0 := by unfold baseV; omega
    refine Nat.mod_eq_zero_of_dvd (Nat.dvd_trans (Nat.pow_dvd_pow 2 (show j + 1 ≤ 8 by omega)) (Nat.dvd_of_mod_eq_zero this))
  have h5 : (baseV rsw ppn + lowL l j) / 2 ^ j % 2 = 0 := by
    obtain ⟨k, hk⟩ := Nat.dvd_of_mod_eq_zero h4
    rw [hk, Nat.pow_succ, Nat.mul_assoc, Nat.mul_add_div (Nat.two_pow_pos j), Nat.div_eq_of_lt h1]
    omega
  rw [bits_or_u64_nat _ _ (by omega) (by omega), or_pow _ _ h5]
  simp only [lowL, hb, bt, if_true]
  omega
theorem put_round' (l : List Bool) (rsw ppn : Int) (j : Nat) (hj : j < 8) (hb : l.getD j false = true) :
    bits .or .u64 (((baseV rsw ppn : Nat) : Int) + ((lowL l j : Nat) : Int)) (IntKind.u64.wrap ((2 : Int) ^ j)) = ((baseV rsw ppn + lowL l (j + 1) : Nat) : Int) := by
  have h3 : 2 ^ j ≤ 2 ^ 7 := Nat.pow_le_pow_right (by decide) (by omega)
  rw [← put_round l rsw ppn j hj hb]
  have e : (2 : Int) ^ j = ((2 ^ j : Nat) : Int) := by simp
  rw [e]
  generalize 2 ^ j = P at *
  rw [IntWalk.u64_in _ (by omega), Int.natCast_add]
theorem put_skip (l : List Bool) (rsw ppn : Int) (j : Nat) (hb : l.getD j false = false) : baseV rsw ppn + lowL l (j + 1) = baseV rsw ppn + lowL l j := by
  rw [lowL, hb]; simp [bt]
theorem put_last (v r w x u g a d : Bool) (rsw ppn : Int) : baseV rsw ppn + lowL [v, r, w, x, u, g, a, d] 8 = putV v r w x u g a d rsw ppn := by
  simp [lowL, putV, baseV]
  omega

theorem put_any (v r w x u g a d : Bool) (rsw ppn : Int) (W : World) (hp : 0 ≤ ppn ∧ ppn < 18446744073709551616) :
    Calls Try.prog 10 #[.agg #[.bool v, .bool r, .bool w, .bool x, .bool u, .bool g, .bool a, .bool d, .int .i64 rsw, .int .u64 ppn]] W fun e w' => e = .returned (.int .u64 ((putV v r w x u g a d rsw ppn : Nat) : Int)) ∧ Below W.heap.size W w' := by
  have HP := Lib.hid hp
  clear hp
  go_enter Try.func10, Try.ntmps10
  go_wp2_with (go_at_call 29; refine (flags_any _ _ _ _ _ _ _ _ _ _ _).mono ?_; rintro e w1 ⟨rfl, hb⟩)
  go_loop [3, 18] (fun x' i => ∃ j : Nat, j ≤ 8 ∧ i = .int .i64 j ∧ x' = .int .u64 ((baseV rsw ppn + lowL [v, r, w, x, u, g, a, d] j : Nat) : Int)) (fun _ i => (8 - intOf i).toNat)
  case atStart => exact ⟨0, by omega, rfl, by rw [base_eq rsw ppn HP.out]; rfl⟩
  case round =>
    obtain ⟨j, hj, rfl, rfl⟩ := hrel
    by_cases h0 : j < 8
    · have hidx : ∀ W', (Instr.index 46 (.agg #[.bool v, .bool r, .bool w, .bool x, .bool u, .bool g, .bool a, .bool d]) (.int .i64 (j : Int))).run Try.prog W' = .ok (.bool ([v, r, w, x, u, g, a, d].getD j false)) W' := by
        intro W'
        rcases (show j = 0 ∨ j = 1 ∨ j = 2 ∨ j = 3 ∨ j = 4 ∨ j = 5 ∨ j = 6 ∨ j = 7 by omega) with rfl | rfl | rfl | rfl | rfl | rfl | rfl | rfl <;> kernel_rfl
      have hr : [v, r, w, x, u, g, a, d].getD j false = true → _ := put_round' [v, r, w, x, u, g, a, d] rsw ppn j h0
      have hs := put_skip [v, r, w, x, u, g, a, d] rsw ppn j
      have HR := Lib.hid hr
      have HS := Lib.hid hs
      clear hr hs
      cases hbb : [v, r, w, x, u, g, a, d].getD j false with
      | false =>
        rw [hbb] at hidx
        have HB := Lib.hid hbb
        clear hbb
        go_wp2
        exact ⟨⟨j + 1, by omega, by go_num, by rw [HS.out HB.out]⟩, by simp [intOf]; omega⟩
      | true =>
        rw [hbb] at hidx
        have HB := Lib.hid hbb
        clear hbb
        go_wp2
        exact ⟨⟨j + 1, by omega, by go_num, by rw [HR.out HB.out]⟩, by simp [intOf]; omega⟩
    · obtain rfl : j = 8 := by omega
      go_wp2
      go_ret
      exact ⟨by rw [← put_last, Int.natCast_add]; rfl, ((Below.refl _ _).alloc (Nat.le_refl _) _).trans (hb.mono (by simp))⟩

theorem getfn_any (x : Nat) (i : Int) (p : Addr) (W : World) (hx : x < 18446744073709551616) (hi : 0 ≤ i) (hi2 : i ≤ 7) (hc : W.cell? p = some (.int .u64 (x : Int))) :
    Calls Try.prog 27 #[.int .i64 i, .pointer (some p)] W fun e w' => e = .returned (.bool (x / 2 ^ i.toNat % 2 == 1)) ∧ W = w' := by
  go_enter Try.func27, Try.ntmps27
  go_wp2
  go_ret
  refine ⟨congrArg (fun b => Ending.returned (.bool b)) ?_, rfl⟩
  show (bits .and .u64 ((x : Int) / 2 ^ i.toNat) 1 == 1) = _
  have h : x / 2 ^ i.toNat ≤ x := Nat.div_le_self _ _
  have e : ((x : Int) / 2 ^ i.toNat) = ((x / 2 ^ i.toNat : Nat) : Int) := by simp
  rw [e]
  generalize x / 2 ^ i.toNat = y at *
  rw [and_mask y 1 1 (by decide) rfl (by omega), show (2 : Nat) ^ 1 = 2 from rfl]
  rcases Nat.mod_two_eq_zero_or_one y with hy | hy <;> rw [hy] <;> rfl

def bitB (x i : Nat) : Bool := x / 2 ^ i % 2 == 1
/-- The entry of a word. -/
def entryV (x : Nat) : Value := .agg #[.bool (bitB x 0), .bool (bitB x 1), .bool (bitB x 2), .bool (bitB x 3), .bool (bitB x 4), .bool (bitB x 5), .bool (bitB x 6), .bool (bitB x 7), .int .i64 ((x / 256 % 4 : Nat) : Int), .int .u64 ((x / 1024 % 17592186044416 : Nat) : Int)]
end Go.Proofs.Ytikgdnlnhmikgaa
