/- Merged texts: PteC, PteD, PteE, PteG, PteH, PteJ, PermA, PermB, PermC. -/
import Derived.Test.YtecalibnnfcaeaaMm3
import Derived.BigRegion
import Derived.Test.YtecalibnnfcaeaaPlan
import Derived.Test.YtecalibnnfcaeaaOpen
/- Contracts: the reference's Join; Leaf, Right; flags; Put. -/
namespace Go.Proofs.Ytecalibnnfcaeaa
open Go.RowKit

theorem at_eq (ppn : Nat) : ppn % 4503599627370496 * 4096 = ppn * 4096 % 18446744073709551616 := by omega
theorem rjoin_fin12 (ppn va : Nat) : IntKind.u64.wrap (IntKind.u64.wrap ((ppn : Int) * 4096 % 18446744073709551616 - ((ppn : Int) * 4096 % 18446744073709551616).tmod 4096) + (va : Int).tmod 4096) = ((ppn * 4096 % 18446744073709551616 / 4096 * 4096 + va % 4096 : Nat) : Int) := by
  rw [Int.tmod_eq_emod_of_nonneg (by omega), Int.tmod_eq_emod_of_nonneg (by omega), IntKind.wrap_u64, IntKind.wrap_u64]
  omega
theorem rjoin_fin21 (ppn va : Nat) : IntKind.u64.wrap (IntKind.u64.wrap ((ppn : Int) * 4096 % 18446744073709551616 - ((ppn : Int) * 4096 % 18446744073709551616).tmod 2097152) + (va : Int).tmod 2097152) = ((ppn * 4096 % 18446744073709551616 / 2097152 * 2097152 + va % 2097152 : Nat) : Int) := by
  rw [Int.tmod_eq_emod_of_nonneg (by omega), Int.tmod_eq_emod_of_nonneg (by omega), IntKind.wrap_u64, IntKind.wrap_u64]
  omega
theorem rjoin_fin30 (ppn va : Nat) : IntKind.u64.wrap (IntKind.u64.wrap ((ppn : Int) * 4096 % 18446744073709551616 - ((ppn : Int) * 4096 % 18446744073709551616).tmod 1073741824) + (va : Int).tmod 1073741824) = ((ppn * 4096 % 18446744073709551616 / 1073741824 * 1073741824 + va % 1073741824 : Nat) : Int) := by
  rw [Int.tmod_eq_emod_of_nonneg (by omega), Int.tmod_eq_emod_of_nonneg (by omega), IntKind.wrap_u64, IntKind.wrap_u64]
  omega
theorem rjoin_any (ppn va : Nat) (n : Int) (w : World) (hp : ppn < 18446744073709551616) (hv : va < 18446744073709551616) :
    Calls Try.prog 50 #[.int .u64 ppn, .int .u64 va, .int .i64 n] w fun e w' => e = .returned (.int .u64 ((joinV ppn va n : Nat) : Int)) ∧ Below w.heap.size w w' := by
  rcases Bool.eq_false_or_eq_true (levelB n) with h1 | h1
  · have e1 : IntKind.u64.wrap (((ppn : Int) % 4503599627370496) * 4096) = ((ppn * 4096 % 18446744073709551616 : Nat) : Int) := by
      rw [← at_eq, IntWalk.u64_in _ (by omega)]; omega
    have hx : ppn * 4096 % 18446744073709551616 < 18446744073709551616 := Nat.mod_lt _ (by decide)
    rcases level_cases h1 with rfl | rfl | rfl
    all_goals
      have H1 := Lib.hid h1
      have HV := Lib.hid hv
      have HP := Lib.hid hp
      clear h1 hv hp
      go_enter Try.func50, Try.ntmps50
      go_wp2_with (first | (go_at_call 71; refine (rlevel_any _ _).mono ?_; rintro e w' ⟨rfl, rfl⟩; rw [H1.out]) | (go_at_call 61; refine (pow_any _ _ (by decide) (by decide)).mono ?_; rintro e w' ⟨rfl, rfl⟩; rw [show ((2 ^ (52 : Int).toNat : Nat) : Int) = 4503599627370496 from rfl]))
      refine wp_region_plan [(0, false), (1, false), (2, false), (6, false), (7, false), (3, true), (4, false), (5, false), (8, true), (9, false), (10, false), (11, false)] (by kernel_rfl) (by kernel_rfl) (fun _ d _ _ _ h => by cases d <;> exact h) ?_
      iterate 5 (refine plan_take (v := ?_) rfl (by kernel_rfl) ?_ ?_; rotate_left; (focus (intro w' hw'; try go_simp; try with_reducible rfl)); simp only [Act.put, List.setIfInBounds_toArray, List.set_cons_zero, List.set_cons_succ])
      refine plan_call rfl (by kernel_rfl) (by go_simp; exact ⟨rfl, rfl⟩) ?_
      refine (rspan_any _ _).mono ?_
      rintro e w' ⟨rfl, rfl⟩
      first | rw [show ((spanV 0 : Nat) : Int) = 4096 from rfl] | rw [show ((spanV 1 : Nat) : Int) = 2097152 from rfl] | rw [show ((spanV 2 : Nat) : Int) = 1073741824 from rfl]
      refine ⟨_, rfl, Ext.refl _, ?_⟩
      simp only [Act.put, List.setIfInBounds_toArray, List.set_cons_zero, List.set_cons_succ]
      iterate 2 (refine plan_take (v := ?_) rfl (by kernel_rfl) ?_ ?_; rotate_left; (focus (intro w' hw'; try go_simp; try with_reducible rfl)); simp only [Act.put, List.setIfInBounds_toArray, List.set_cons_zero, List.set_cons_succ])
      refine plan_call rfl (by kernel_rfl) (by go_simp; exact ⟨rfl, rfl⟩) ?_
      refine (rspan_any _ _).mono ?_
      rintro e w' ⟨rfl, rfl⟩
      first | rw [show ((spanV 0 : Nat) : Int) = 4096 from rfl] | rw [show ((spanV 1 : Nat) : Int) = 2097152 from rfl] | rw [show ((spanV 2 : Nat) : Int) = 1073741824 from rfl]
      refine ⟨_, rfl, Ext.refl _, ?_⟩
      simp only [Act.put, List.setIfInBounds_toArray, List.set_cons_zero, List.set_cons_succ]
      iterate 3 (refine plan_take (v := ?_) rfl (by kernel_rfl) ?_ ?_; rotate_left; (focus (intro w' hw'; try go_simp; try with_reducible rfl)); simp only [Act.put, List.setIfInBounds_toArray, List.set_cons_zero, List.set_cons_succ])
      refine plan_end ?_
      go_wp2
      go_ret
      refine ⟨?_, (Below.refl _ _).drew⟩
      first
      | exact congrArg (fun x => Ending.returned (.int .u64 x)) (rjoin_fin12 ppn va)
      | exact congrArg (fun x => Ending.returned (.int .u64 x)) (rjoin_fin21 ppn va)
      | exact congrArg (fun x => Ending.returned (.int .u64 x)) (rjoin_fin30 ppn va)
  · have H1 := Lib.hid h1
    clear h1
    go_enter Try.func50, Try.ntmps50
    go_wp2_with (go_at_call 71; refine (rlevel_any _ _).mono ?_; rintro e w' ⟨rfl, rfl⟩; rw [H1.out])
    go_ret
    exact ⟨by rw [joinV, H1.out]; rfl, Below.refl _ _⟩

/-! Entries. -/
structure Pte where
  v : Bool
  r : Bool
  w : Bool
  x : Bool
  u : Bool
  g : Bool
  a : Bool
  d : Bool
  rsw : Int
  ppn : Int
def Pte.val (p : Pte) : Value := .agg #[.bool p.v, .bool p.r, .bool p.w, .bool p.x, .bool p.u, .bool p.g, .bool p.a, .bool p.d, .int .i64 p.rsw, .int .u64 p.ppn]

theorem leaf_any (v r w x u g a d : Bool) (rsw ppn : Int) (W : World) :
    Calls Try.prog 77 #[.agg #[.bool v, .bool r, .bool w, .bool x, .bool u, .bool g, .bool a, .bool d, .int .i64 rsw, .int .u64 ppn]] W fun e w' => e = .returned (.bool (r || x)) ∧ Below W.heap.size W w' := by
  cases r
  all_goals
    go_enter Try.func77, Try.ntmps77
    go_wp2
    go_ret
    exact ⟨rfl, (Below.refl _ _).alloc (Nat.le_refl _) _⟩
theorem right_any (v r w x u g a d : Bool) (rsw ppn : Int) (W : World) :
    Calls Try.prog 76 #[.agg #[.bool v, .bool r, .bool w, .bool x, .bool u, .bool g, .bool a, .bool d, .int .i64 rsw, .int .u64 ppn]] W fun e w' => e = .returned (.bool (v && (r || !w))) ∧ Below W.heap.size W w' := by
  cases v <;> cases r
  all_goals
    go_enter Try.func76, Try.ntmps76
    go_wp2
    go_ret
    exact ⟨rfl, (Below.refl _ _).alloc (Nat.le_refl _) _⟩

def bt (b : Bool) : Nat := if b then 1 else 0
/-- The word of an entry. -/
def putV (v r w x u g a d : Bool) (rsw ppn : Int) : Nat :=
  bt v + 2 * bt r + 4 * bt w + 8 * bt x + 16 * bt u + 32 * bt g + 64 * bt a + 128 * bt d + 256 * (rsw % 4).toNat + 1024 * (ppn.toNat % 17592186044416)

def lowL (l : List Bool) : Nat → Nat
  | 0 => 0
  | j + 1 => lowL l j + 2 ^ j * bt (l.getD j false)
theorem lowL_lt (l : List Bool) : ∀ j, lowL l j < 2 ^ j
  | 0 => by simp [lowL]
  | j + 1 => by
    have := lowL_lt l j
    have hb : 2 ^ j * bt (l.getD j false) ≤ 2 ^ j := by unfold bt; split <;> simp
    rw [lowL, Nat.pow_succ]
    omega
theorem or_pow (x i : Nat) (h : x / 2 ^ i % 2 = 0) : x ||| 2 ^ i = x + 2 ^ i := by
  have hp := Nat.two_pow_pos i
  have h1 : (x ||| 2 ^ i) % 2 ^ i = x % 2 ^ i := by rw [Nat.or_mod_two_pow, Nat.mod_self, Nat.or_zero]
  have h2 : (x ||| 2 ^ i) / 2 ^ i = x / 2 ^ i + 1 := by
    rw [Nat.or_div_two_pow, Nat.div_self hp]
    have := or_low (x / 2 ^ i / 2) 1 1 (by decide)
    rw [show x / 2 ^ i / 2 * 2 ^ 1 = x / 2 ^ i by omega] at this
    exact this
  have h3 := Nat.div_add_mod (x ||| 2 ^ i) (2 ^ i)
  have h4 := Nat.div_add_mod x (2 ^ i)
  rw [h1, h2, Nat.mul_add] at h3
  omega
def baseV (rsw ppn : Int) : Nat := 256 * (rsw % 4).toNat + 1024 * (ppn.toNat % 17592186044416)
theorem baseV_lt (rsw ppn : Int) : baseV rsw ppn < 18014398509481984 := by unfold baseV; omega
theorem i64_and3 (n : Int) : bits .and .i64 n 3 = n % 4 := by
  show IntKind.i64.wrap ((BitVec.ofInt 64 n &&& BitVec.ofInt 64 3).toNat : Int) = n % 4
  have e : (BitVec.ofInt 64 n &&& BitVec.ofInt 64 3).toNat = (n % 18446744073709551616).toNat % 4 := by
    rw [BitVec.toNat_and, show (BitVec.ofInt 64 3).toNat = 2 ^ 2 - 1 from rfl, Nat.and_two_pow_sub_one_eq_mod, BitVec.toNat_ofInt]
    rfl
  rw [e, IntKind.wrap_i64]
  omega
theorem base_eq (rsw ppn : Int) (hp : 0 ≤ ppn ∧ ppn < 18446744073709551616) :
    bits .or .u64 (IntKind.u64.wrap (bits .and .u64 ppn 17592186044415 * 1024)) (IntKind.u64.wrap (IntKind.u64.wrap (bits .and .i64 rsw 3) * 256)) = ((baseV rsw ppn : Nat) : Int) := by
  obtain ⟨P, rfl⟩ := Int.eq_ofNat_of_zero_le hp.1
  rw [and_mask P 44 17592186044415 (by decide) rfl (by omega), i64_and3]
  have hP : P % 2 ^ 44 < 17592186044416 := Nat.mod_lt _ (by decide)
  unfold baseV
  rw [show (P : Int).toNat = P from rfl, show (17592186044416 : Nat) = 2 ^ 44 from rfl]
  generalize P % 2 ^ 44 = q at *
  rw [IntWalk.u64_in ((q : Int) * 1024) (by omega), IntWalk.u64_in (rsw % 4) (by omega), IntWalk.u64_in (rsw % 4 * 256) (by omega)]
  have e1 : (q : Int) * 1024 = ((q * 2 ^ 10 : Nat) : Int) := by omega
  have e2 : rsw % 4 * 256 = ((256 * (rsw % 4).toNat : Nat) : Int) := by omega
  rw [e1, e2, bits_or_u64_nat _ _ (by omega) (by omega), or_low q _ 10 (by omega)]
  omega
theorem put_round (l : List Bool) (rsw ppn : Int) (j : Nat) (hj : j < 8) (hb : l.getD j false = true) :
    bits .or .u64 ((baseV rsw ppn + lowL l j : Nat) : Int) ((2 ^ j : Nat) : Int) = ((baseV rsw ppn + lowL l (j + 1) : Nat) : Int) := by
  have h1 := lowL_lt l j
  have h2 := baseV_lt rsw ppn
  have h3 : 2 ^ j ≤ 2 ^ 7 := Nat.pow_le_pow_right (by decide) (by omega)
  have h4 : baseV rsw ppn % 2 ^ (j + 1) = 0 := by
    have : baseV rsw ppn % 256 = 0 := by unfold baseV; omega
    refine Nat.mod_eq_zero_of_dvd (Nat.dvd_trans (Nat.pow_dvd_pow 2 (show j + 1 ≤ 8 by omega)) (Nat.dvd_of_mod_eq_zero this))
  have h5 : (baseV rsw ppn + lowL l j) / 2 ^ j % 2 = 0 := by
    obtain ⟨k, hk⟩ := Nat.dvd_of_mod_eq_zero h4
    rw [hk, Nat.pow_succ, Nat.mul_assoc, Nat.mul_add_div (Nat.two_pow_pos j), Nat.div_eq_of_lt h1]
    omega
  rw [bits_or_u64_nat _ _ (by omega) (by omega), or_pow _ _ h5]
  simp only [lowL, hb, bt, if_true]
  omega
theorem put_round' (l : List Bool) (rsw ppn : Int) (j : Nat) (hj : j < 8) (hb : l.getD j false = true) :
    bits .or .u64 (((baseV rsw ppn : Nat) : Int) + ((lowL l j : Nat) : Int)) (IntKind.u64.wrap ((2 : Int) ^ j)) = ((baseV rsw ppn + lowL l (j + 1) : Nat) : Int) := by
  have h3 : 2 ^ j ≤ 2 ^ 7 := Nat.pow_le_pow_right (by decide) (by omega)
  rw [← put_round l rsw ppn j hj hb]
  have e : (2 : Int) ^ j = ((2 ^ j : Nat) : Int) := by simp
  rw [e]
  generalize 2 ^ j = P at *
  rw [IntWalk.u64_in _ (by omega), Int.natCast_add]
theorem put_skip (l : List Bool) (rsw ppn : Int) (j : Nat) (hb : l.getD j false = false) : baseV rsw ppn + lowL l (j + 1) = baseV rsw ppn + lowL l j := by
  rw [lowL, hb]; simp [bt]
theorem put_last (v r w x u g a d : Bool) (rsw ppn : Int) : baseV rsw ppn + lowL [v, r, w, x, u, g, a, d] 8 = putV v r w x u g a d rsw ppn := by
  simp [lowL, putV, baseV]
  omega

theorem getfn_any (x : Nat) (i : Int) (p : Addr) (W : World) (hx : x < 18446744073709551616) (hi : 0 ≤ i) (hi2 : i ≤ 7) (hc : W.cell? p = some (.int .u64 (x : Int))) :
    Calls Try.prog 96 #[.int .i64 i, .pointer (some p)] W fun e w' => e = .returned (.bool (x / 2 ^ i.toNat % 2 == 1)) ∧ W = w' := by
  go_enter Try.func96, Try.ntmps96
  go_wp2
  go_ret
  refine ⟨congrArg (fun b => Ending.returned (.bool b)) ?_, rfl⟩
  show (bits .and .u64 ((x : Int) / 2 ^ i.toNat) 1 == 1) = _
  have h : x / 2 ^ i.toNat ≤ x := Nat.div_le_self _ _
  have e : ((x : Int) / 2 ^ i.toNat) = ((x / 2 ^ i.toNat : Nat) : Int) := by simp
  rw [e]
  generalize x / 2 ^ i.toNat = y at *
  rw [and_mask y 1 1 (by decide) rfl (by omega), show (2 : Nat) ^ 1 = 2 from rfl]
  rcases Nat.mod_two_eq_zero_or_one y with hy | hy <;> rw [hy] <;> rfl

def bitB (x i : Nat) : Bool := x / 2 ^ i % 2 == 1
/-- The entry of a word. -/
def entryV (x : Nat) : Value := .agg #[.bool (bitB x 0), .bool (bitB x 1), .bool (bitB x 2), .bool (bitB x 3), .bool (bitB x 4), .bool (bitB x 5), .bool (bitB x 6), .bool (bitB x 7), .int .i64 ((x / 256 % 4 : Nat) : Int), .int .u64 ((x / 1024 % 17592186044416 : Nat) : Int)]
end Go.Proofs.Ytecalibnnfcaeaa

/- Contract of pte.Get, GetSatp. -/
namespace Go.Proofs.Ytecalibnnfcaeaa
open Go.RowKit

theorem rsw_eq (x : Nat) (hx : x < 18446744073709551616) : wrap64 (bits .and .u64 ((x : Int) / 256) 3) = ((x / 256 % 4 : Nat) : Int) := by
  have e : ((x : Int) / 256) = ((x / 256 : Nat) : Int) := by omega
  rw [e, and_mask (x / 256) 2 3 (by decide) rfl (by omega), IntWalk.wrap64_in _ (by omega)]
theorem ppn_eq (x : Nat) (hx : x < 18446744073709551616) : bits .and .u64 (x : Int) 18014398509481983 / 1024 = ((x / 1024 % 17592186044416 : Nat) : Int) := by
  rw [and_mask x 54 18014398509481983 (by decide) rfl hx]
  omega
theorem ok_eq (x : Nat) (hx : x < 18446744073709551616) : (bits .andNot .u64 (x : Int) 18014398509481983 == 0) = (x / 18014398509481984 == 0) := by
  have h := u64_andNot_nat x (2 ^ 54 - 1) hx (by decide)
  rw [show ((2 ^ 54 - 1 : Nat) : Int) = 18014398509481983 from rfl, show 18446744073709551615 - (2 ^ 54 - 1) = 2 ^ (54 + 10) - 2 ^ 54 from rfl, and_high x 54 10 hx] at h
  rw [h, show (2 : Nat) ^ 54 = 18014398509481984 from rfl, Bool.eq_iff_iff]
  simp only [beq_iff_eq]
  omega
theorem entry_eq (x : Nat) (hx : x < 18446744073709551616) : Value.agg #[.bool (x % 2 == 1), .bool (x / 2 % 2 == 1), .bool (x / 4 % 2 == 1), .bool (x / 8 % 2 == 1), .bool (x / 16 % 2 == 1), .bool (x / 32 % 2 == 1), .bool (x / 64 % 2 == 1), .bool (x / 128 % 2 == 1), .int .i64 (wrap64 (bits .and .u64 ((x : Int) / 256) 3)), .int .u64 (bits .and .u64 (x : Int) 18014398509481983 / 1024)] = entryV x := by
  rw [rsw_eq x hx, ppn_eq x hx]
  simp [entryV, bitB]
theorem three (x : Nat) (W : World) : ∃ W3, W3 = ((W.alloc (.cells #[.int .u64 (x : Int)] 41)).alloc (.cells #[.bool false, .bool false, .bool false, .bool false, .bool false, .bool false, .bool false, .bool false, .int .i64 0, .int .u64 0] 95)).alloc (.cells #[.bool (x % 2 == 1), .bool (x / 2 % 2 == 1), .bool (x / 4 % 2 == 1), .bool (x / 8 % 2 == 1), .bool (x / 16 % 2 == 1), .bool (x / 32 % 2 == 1), .bool (x / 64 % 2 == 1), .bool (x / 128 % 2 == 1), .int .i64 (wrap64 (bits .and .u64 ((x : Int) / 256) 3)), .int .u64 (bits .and .u64 (x : Int) 18014398509481983 / 1024)] 95) ∧ Below W.heap.size W W3 ∧ W3.cell? ⟨W.heap.size, 0, none⟩ = some (.int .u64 (x : Int)) ∧ W3.heap.size = W.heap.size + 1 + 1 + 1 ∧ W3.cell? ⟨W.heap.size + 1 + 1, 0, none⟩ = some (.bool (x % 2 == 1)) ∧ W3.cell? ⟨W.heap.size + 1 + 1, 1, none⟩ = some (.bool (x / 2 % 2 == 1)) ∧ W3.cell? ⟨W.heap.size + 1 + 1, 2, none⟩ = some (.bool (x / 4 % 2 == 1)) ∧ W3.cell? ⟨W.heap.size + 1 + 1, 3, none⟩ = some (.bool (x / 8 % 2 == 1)) ∧ W3.cell? ⟨W.heap.size + 1 + 1, 4, none⟩ = some (.bool (x / 16 % 2 == 1)) ∧ W3.cell? ⟨W.heap.size + 1 + 1, 5, none⟩ = some (.bool (x / 32 % 2 == 1)) ∧ W3.cell? ⟨W.heap.size + 1 + 1, 6, none⟩ = some (.bool (x / 64 % 2 == 1)) ∧ W3.cell? ⟨W.heap.size + 1 + 1, 7, none⟩ = some (.bool (x / 128 % 2 == 1)) ∧ W3.cell? ⟨W.heap.size + 1 + 1, 8, none⟩ = some (.int .i64 (wrap64 (bits .and .u64 ((x : Int) / 256) 3))) ∧ W3.cell? ⟨W.heap.size + 1 + 1, 9, none⟩ = some (.int .u64 (bits .and .u64 (x : Int) 18014398509481983 / 1024)) ∧ W3.cell? ⟨W.heap.size + 1, 0, none⟩ = some (.bool false) ∧ W3.cell? ⟨W.heap.size + 1, 1, none⟩ = some (.bool false) ∧ W3.cell? ⟨W.heap.size + 1, 2, none⟩ = some (.bool false) ∧ W3.cell? ⟨W.heap.size + 1, 3, none⟩ = some (.bool false) ∧ W3.cell? ⟨W.heap.size + 1, 4, none⟩ = some (.bool false) ∧ W3.cell? ⟨W.heap.size + 1, 5, none⟩ = some (.bool false) ∧ W3.cell? ⟨W.heap.size + 1, 6, none⟩ = some (.bool false) ∧ W3.cell? ⟨W.heap.size + 1, 7, none⟩ = some (.bool false) ∧ W3.cell? ⟨W.heap.size + 1, 8, none⟩ = some (.int .i64 0) ∧ W3.cell? ⟨W.heap.size + 1, 9, none⟩ = some (.int .u64 0) ∧ (∀ i, W3.frozen? ⟨W.heap.size + 1, i, none⟩ = false) := by
  refine ⟨_, rfl, by go_grown, ?_⟩
  simp [go_sem]

theorem pte_save_set {g i : Nat} {w w' : World} {v : Value} (h : Save g w w') : Save g w (w'.setCell ⟨g, i, none⟩ v) := fun p hp => by
  rw [World.cell?_setCell_other _ _ _ _ (by rintro rfl; exact hp rfl)]; exact h p hp
theorem pte_save_drew {g : Nat} {w w' : World} (h : Save g w w') : Save g w.drew w'.drew := h
set_option maxHeartbeats 2000000 in
theorem get_any (x : Nat) (W : World) (hx : x < 18446744073709551616) :
    Calls Try.prog 95 #[.int .u64 (x : Int)] W fun e w' => e = .returned (.tuple #[entryV x, .bool (x / 18014398509481984 == 0)]) ∧ Below W.heap.size W w' := by
  have HX := Lib.hid hx
  clear hx
  have h3 := three x W
  have H3 := Lib.hid h3
  clear h3
  go_enter Try.func95, Try.ntmps95
  go_wp2_with (go_at_call 96; refine (getfn_any x _ _ _ HX.out (by decide) (by decide) (by simp)).mono ?_; rintro e w' ⟨rfl, rfl⟩)
  obtain ⟨W3, hW3, hb, hcx, hsz, hc0, hc1, hc2, hc3, hc4, hc5, hc6, hc7, hc8, hc9, hz0, hz1, hz2, hz3, hz4, hz5, hz6, hz7, hz8, hz9, hfz⟩ := H3.out
  rw [← hW3]
  clear hW3 H3
  have HB := Lib.hid hb
  clear hb
  have hs0 := fun W' (h : Save (W.heap.size + 1) W3.drew W') => (h ⟨W.heap.size + 1 + 1, 0, none⟩ (by simp)).trans hc0
  have hs1 := fun W' (h : Save (W.heap.size + 1) W3.drew W') => (h ⟨W.heap.size + 1 + 1, 1, none⟩ (by simp)).trans hc1
  have hs2 := fun W' (h : Save (W.heap.size + 1) W3.drew W') => (h ⟨W.heap.size + 1 + 1, 2, none⟩ (by simp)).trans hc2
  have hs3 := fun W' (h : Save (W.heap.size + 1) W3.drew W') => (h ⟨W.heap.size + 1 + 1, 3, none⟩ (by simp)).trans hc3
  have hs4 := fun W' (h : Save (W.heap.size + 1) W3.drew W') => (h ⟨W.heap.size + 1 + 1, 4, none⟩ (by simp)).trans hc4
  have hs5 := fun W' (h : Save (W.heap.size + 1) W3.drew W') => (h ⟨W.heap.size + 1 + 1, 5, none⟩ (by simp)).trans hc5
  have hs6 := fun W' (h : Save (W.heap.size + 1) W3.drew W') => (h ⟨W.heap.size + 1 + 1, 6, none⟩ (by simp)).trans hc6
  have hs7 := fun W' (h : Save (W.heap.size + 1) W3.drew W') => (h ⟨W.heap.size + 1 + 1, 7, none⟩ (by simp)).trans hc7
  have hs8 := fun W' (h : Save (W.heap.size + 1) W3.drew W') => (h ⟨W.heap.size + 1 + 1, 8, none⟩ (by simp)).trans hc8
  have hs9 := fun W' (h : Save (W.heap.size + 1) W3.drew W') => (h ⟨W.heap.size + 1 + 1, 9, none⟩ (by simp)).trans hc9
  have hsx := fun W' (h : Save (W.heap.size + 1) W3.drew W') => (h ⟨W.heap.size, 0, none⟩ (by simp)).trans hcx
  refine wp_region_plan_by (Save (W.heap.size + 1)) (later_save _) [(0, false), (1, false), (2, false), (3, false), (4, true), (5, false)] (by kernel_rfl) (by kernel_rfl) (fun _ d _ _ _ h => by cases d <;> exact h) ?_
  iterate 4 (refine plan_take (v := ?_) rfl (by kernel_rfl) ?_ ?_; rotate_left; (focus (intro w' hw'; try go_simp; try with_reducible rfl)); simp only [Act.put, List.setIfInBounds_toArray, List.set_cons_zero, List.set_cons_succ])
  refine plan_turn rfl (by kernel_rfl) (fun K hK => ?_)
  go_simp
  refine hK _ _ ⟨pte_save_drew (by repeat (first | (with_reducible exact (later_save _).refl _) | (with_reducible refine pte_save_set ?_))), ?_⟩
  iterate 1 (refine plan_take (v := ?_) rfl (by kernel_rfl) ?_ ?_; rotate_left; (focus (intro w' hw'; try go_simp; try with_reducible rfl)); simp only [Act.put, List.setIfInBounds_toArray, List.set_cons_zero, List.set_cons_succ])
  refine plan_end ?_
  clear hs0 hs1 hs2 hs3 hs4 hs5 hs6 hs7 hs8 hs9 hsx hc0 hc1 hc2 hc3 hc4 hc5 hc6 hc7 hc8 hc9 hcx
  go_wp2
  refine bodyPost_ret (v := .tuple #[.agg #[.bool (x % 2 == 1), .bool (x / 2 % 2 == 1), .bool (x / 4 % 2 == 1), .bool (x / 8 % 2 == 1), .bool (x / 16 % 2 == 1), .bool (x / 32 % 2 == 1), .bool (x / 64 % 2 == 1), .bool (x / 128 % 2 == 1), .int .i64 (wrap64 (bits .and .u64 ((x : Int) / 256) 3)), .int .u64 (bits .and .u64 (x : Int) 18014398509481983 / 1024)], .bool (bits .andNot .u64 (x : Int) 18014398509481983 == 0)]) (by simp [results, Try.results95, go_sem, hz0, hz1, hz2, hz3, hz4, hz5, hz6, hz7, hz8, hz9]) rfl ⟨?_, ?_⟩
  · rw [entry_eq x HX.out, ok_eq x HX.out]
  · have hB := HB.out
    refine Below.drew ?_
    repeat (first | (with_reducible exact hB) | (with_reducible refine Below.setCell ?_ (by simp) _))
end Go.Proofs.Ytecalibnnfcaeaa

/- Contract of pte.GetSatp; the laws' first function. -/
namespace Go.Proofs.Ytecalibnnfcaeaa
open Go.RowKit

theorem asid_eq (x : Nat) (hx : x < 18446744073709551616) : wrap64 (bits .and .u64 ((x : Int) / 17592186044416) 65535) = ((x / 17592186044416 % 65536 : Nat) : Int) := by
  have e : ((x : Int) / 17592186044416) = ((x / 17592186044416 : Nat) : Int) := by omega
  rw [e, and_mask (x / 17592186044416) 16 65535 (by decide) rfl (by omega), IntWalk.wrap64_in _ (by omega)]
theorem sppn_eq (x : Nat) (hx : x < 18446744073709551616) : bits .and .u64 (x : Int) 17592186044415 = ((x % 17592186044416 : Nat) : Int) := and_mask x 44 17592186044415 (by decide) rfl hx

theorem getsatp_yes (x : Nat) (b : Bool) (W : World) (hx : x < 18446744073709551616) (h : (b = false ∧ x / 1152921504606846976 = 0) ∨ (b = true ∧ x / 1152921504606846976 = 8)) :
    Calls Try.prog 34 #[.int .u64 (x : Int)] W fun e w' => e = .returned (.tuple #[.agg #[.bool b, .int .i64 ((x / 17592186044416 % 65536 : Nat) : Int), .int .u64 ((x % 17592186044416 : Nat) : Int)], .bool true]) ∧ Below W.heap.size W w' := by
  have HX := Lib.hid hx
  rcases h with ⟨rfl, h⟩ | ⟨rfl, h⟩
  · have e1 : ((x : Int) / 1152921504606846976) = ((x / 1152921504606846976 : Nat) : Int) := by omega
    rw [h] at e1
    clear h hx
    go_enter Try.func34, Try.ntmps34
    go_wp2
    refine bodyPost_ret (v := .tuple #[.agg #[.bool false, .int .i64 (wrap64 (bits .and .u64 ((x : Int) / 17592186044416) 65535)), .int .u64 (bits .and .u64 (x : Int) 17592186044415)], .bool true]) (by simp [results, Try.results34, go_sem]) rfl ⟨?_, by go_grown⟩
    rw [asid_eq x HX.out, sppn_eq x HX.out]
  · have e1 : ((x : Int) / 1152921504606846976) = ((x / 1152921504606846976 : Nat) : Int) := by omega
    rw [h] at e1
    clear h hx
    go_enter Try.func34, Try.ntmps34
    go_wp2
    refine bodyPost_ret (v := .tuple #[.agg #[.bool true, .int .i64 (wrap64 (bits .and .u64 ((x : Int) / 17592186044416) 65535)), .int .u64 (bits .and .u64 (x : Int) 17592186044415)], .bool true]) (by simp [results, Try.results34, go_sem]) rfl ⟨?_, by go_grown⟩
    rw [asid_eq x HX.out, sppn_eq x HX.out]

theorem getsatp_no (x : Nat) (W : World) (h0 : x / 1152921504606846976 ≠ 0) (h8 : x / 1152921504606846976 ≠ 8) :
    Calls Try.prog 34 #[.int .u64 (x : Int)] W fun e w' => e = .returned (.tuple #[.agg #[.bool false, .int .i64 0, .int .u64 0], .bool false]) ∧ Below W.heap.size W w' := by
  have n0 : (((x : Int) / 1152921504606846976) != 0) = true := by rw [bne_iff_ne]; omega
  have n8 : (((x : Int) / 1152921504606846976) != 8) = true := by rw [bne_iff_ne]; omega
  clear h0 h8
  go_enter Try.func34, Try.ntmps34
  go_wp2
  exact bodyPost_ret (v := .tuple #[.agg #[.bool false, .int .i64 0, .int .u64 0], .bool false]) (by simp [results, Try.results34, go_sem]) rfl ⟨rfl, by go_grown⟩

theorem entry_2247 : entryV 2247 = .agg #[.bool true, .bool true, .bool true, .bool false, .bool false, .bool false, .bool true, .bool true, .int .i64 0, .int .u64 2] := by
  simp [entryV, bitB]

theorem pte_cell_lt {w : World} {a : Addr} {v : Value} (h : w.cell? a = some v) : a.block < w.heap.size := World.block_lt_of_cell? _ _ h
theorem pte_cell_pass {w w' : World} {o : Obj} {p : Addr} {v : Value} (h : Below (w.alloc o).heap.size (w.alloc o) w') (hc : w.cell? p = some v) : w'.cell? p = some v := by
  have hl := pte_cell_lt hc
  rw [h.cell (by simp; omega), World.cell?_alloc_lt _ _ _ hl]
  exact hc
theorem pte_cell_new {w w' : World} {c : Array Value} {t : TypeId} {i : Nat} (h : Below (w.alloc (.cells c t)).heap.size (w.alloc (.cells c t)) w') : w'.cell? ⟨w.heap.size, i, none⟩ = c[i]? := by
  rw [h.cell (by simp), World.cell?_alloc_new]

end Go.Proofs.Ytecalibnnfcaeaa

/- Contract of the reference's Get. -/
namespace Go.Proofs.Ytecalibnnfcaeaa
open Go.RowKit

theorem field_drew (v : Nat) (a n : Int) (w : World) (hv : v < 18446744073709551616) (ha : 0 ≤ a) (hn : 0 ≤ n) (hn63 : n ≤ 63) (h : a + n ≤ 63) :
    Calls Try.prog 33 #[.int .u64 v, .int .i64 a, .int .i64 n] w fun e w' => e = .returned (.int .u64 ((fieldV v a.toNat n.toNat : Nat) : Int)) ∧ w.drew = w' := by
  unfold fieldV
  have hp := Nat.two_pow_pos a.toNat
  generalize hP : 2 ^ a.toNat = P at hp ⊢
  have hr := Nat.two_pow_pos n.toNat
  generalize hR : 2 ^ n.toNat = R at hr ⊢
  have HP := Lib.hid hP
  have HR := Lib.hid hR
  clear hP hR
  have e64 : ((a + n : Int) == 64) = false := by rw [beq_eq_false_iff_ne]; omega
  go_enter Try.func33, Try.ntmps33
  go_wp2_with fail
  refine wp_region_plan [(0, false), (1, false), (4, false), (2, true), (3, false), (5, true), (6, false), (7, false)] (by kernel_rfl) (by kernel_rfl) (fun _ d _ _ _ h => by cases d <;> exact h) ?_
  iterate 3 (refine plan_take (v := ?_) rfl (by kernel_rfl) ?_ ?_; rotate_left; (focus (intro w' hw'; try go_simp; try with_reducible rfl)); simp only [Act.put, List.setIfInBounds_toArray, List.set_cons_zero, List.set_cons_succ])
  refine plan_call rfl (by kernel_rfl) (by go_simp; exact ⟨rfl, rfl⟩) ?_
  refine (pow_any a _ ha (by omega)).mono ?_
  rintro e w' ⟨rfl, rfl⟩
  rw [HP.out]
  refine ⟨_, rfl, Ext.refl _, ?_⟩
  simp only [Act.put, List.setIfInBounds_toArray, List.set_cons_zero, List.set_cons_succ]
  have hz : ¬ (P = 0) := by omega
  have hd := div_u64 v P hv
  iterate 1 (refine plan_take (v := ?_) rfl (by kernel_rfl) ?_ ?_; rotate_left; (focus (intro w' hw'; try go_simp; try with_reducible rfl)); simp only [Act.put, List.setIfInBounds_toArray, List.set_cons_zero, List.set_cons_succ])
  refine plan_call rfl (by kernel_rfl) (by go_simp; exact ⟨rfl, rfl⟩) ?_
  refine (pow_any n _ hn hn63).mono ?_
  rintro e w' ⟨rfl, rfl⟩
  rw [HR.out]
  refine ⟨_, rfl, Ext.refl _, ?_⟩
  simp only [Act.put, List.setIfInBounds_toArray, List.set_cons_zero, List.set_cons_succ]
  have hzr : ¬ (R = 0) := by omega
  iterate 2 (refine plan_take (v := ?_) rfl (by kernel_rfl) ?_ ?_; rotate_left; (focus (intro w' hw'; try go_simp; try with_reducible rfl)); simp only [Act.put, List.setIfInBounds_toArray, List.set_cons_zero, List.set_cons_succ])
  refine plan_end ?_
  clear hd hz hzr
  go_wp2
  go_ret
  exact ⟨by rw [← fin_field]; rfl, rfl⟩

theorem pte_wp_world {P : Program} {c : Code} {Q : Exit → Act → World → Prop} {a : Act} {w : World} (h : ∀ w0, w0 = w → c.wp P Q a w0) : c.wp P Q a w := h w rfl

theorem rget_eq (x : Nat) : Value.agg #[.bool (((fieldV x 0 1 : Nat) : Int) == 1), .bool (((fieldV x 1 1 : Nat) : Int) == 1), .bool (((fieldV x 2 1 : Nat) : Int) == 1), .bool (((fieldV x 3 1 : Nat) : Int) == 1), .bool (((fieldV x 4 1 : Nat) : Int) == 1), .bool (((fieldV x 5 1 : Nat) : Int) == 1), .bool (((fieldV x 6 1 : Nat) : Int) == 1), .bool (((fieldV x 7 1 : Nat) : Int) == 1), .int .i64 (wrap64 ((fieldV x 8 2 : Nat) : Int)), .int .u64 ((fieldV x 10 44 : Nat) : Int)] = entryV x := by
  have h8 : fieldV x 8 2 < 4 := fieldV_lt x 8 2
  have e : ∀ j, (((fieldV x j 1 : Nat) : Int) == 1) = bitB x j := by
    intro j
    rw [Bool.eq_iff_iff]
    simp only [bitB, fieldV, beq_iff_eq, Nat.reducePow]
    omega
  rw [IntWalk.wrap64_in _ (by omega), e, e, e, e, e, e, e, e]
  rfl

set_option maxHeartbeats 2000000 in
theorem pte_rget_any (x : Nat) (W : World) (hx : x < 18446744073709551616) :
    Calls Try.prog 67 #[.int .u64 (x : Int)] W fun e w' => e = .returned (.tuple #[entryV x, .bool (x / 18014398509481984 == 0)]) ∧ Below W.heap.size W w' := by
  have HX := Lib.hid hx
  clear hx
  go_enter Try.func67, Try.ntmps67
  iterate 10
    go_wp2_with fail
    refine (field_drew _ _ _ _ HX.out (by decide) (by decide) (by decide) (by decide)).mono ?_
    rintro e w' ⟨rfl, rfl⟩
  go_wp2_with fail
  refine pte_wp_world (fun W3 hW3 => ?_)
  have hb : Below W.heap.size W W3 := by rw [hW3]; go_grown
  have hfz : ∀ i, W3.frozen? ⟨W.heap.size, i, none⟩ = false := by intro i; rw [hW3]; simp [go_sem]
  have hc0 : W3.cell? ⟨W.heap.size + 1, 0, none⟩ = some (.bool (((fieldV x 0 1 : Nat) : Int) == 1)) := by rw [hW3]; simp [go_sem]
  have hc1 : W3.cell? ⟨W.heap.size + 1, 1, none⟩ = some (.bool (((fieldV x 1 1 : Nat) : Int) == 1)) := by rw [hW3]; simp [go_sem]
  have hc2 : W3.cell? ⟨W.heap.size + 1, 2, none⟩ = some (.bool (((fieldV x 2 1 : Nat) : Int) == 1)) := by rw [hW3]; simp [go_sem]
  have hc3 : W3.cell? ⟨W.heap.size + 1, 3, none⟩ = some (.bool (((fieldV x 3 1 : Nat) : Int) == 1)) := by rw [hW3]; simp [go_sem]
  have hc4 : W3.cell? ⟨W.heap.size + 1, 4, none⟩ = some (.bool (((fieldV x 4 1 : Nat) : Int) == 1)) := by rw [hW3]; simp [go_sem]
  have hc5 : W3.cell? ⟨W.heap.size + 1, 5, none⟩ = some (.bool (((fieldV x 5 1 : Nat) : Int) == 1)) := by rw [hW3]; simp [go_sem]
  have hc6 : W3.cell? ⟨W.heap.size + 1, 6, none⟩ = some (.bool (((fieldV x 6 1 : Nat) : Int) == 1)) := by rw [hW3]; simp [go_sem]
  have hc7 : W3.cell? ⟨W.heap.size + 1, 7, none⟩ = some (.bool (((fieldV x 7 1 : Nat) : Int) == 1)) := by rw [hW3]; simp [go_sem]
  have hc8 : W3.cell? ⟨W.heap.size + 1, 8, none⟩ = some (.int .i64 (wrap64 ((fieldV x 8 2 : Nat) : Int))) := by rw [hW3]; simp [go_sem]
  have hc9 : W3.cell? ⟨W.heap.size + 1, 9, none⟩ = some (.int .u64 ((fieldV x 10 44 : Nat) : Int)) := by rw [hW3]; simp [go_sem]
  have hz0 : W3.cell? ⟨W.heap.size, 0, none⟩ = some (.bool false) := by rw [hW3]; simp [go_sem]
  have hz1 : W3.cell? ⟨W.heap.size, 1, none⟩ = some (.bool false) := by rw [hW3]; simp [go_sem]
  have hz2 : W3.cell? ⟨W.heap.size, 2, none⟩ = some (.bool false) := by rw [hW3]; simp [go_sem]
  have hz3 : W3.cell? ⟨W.heap.size, 3, none⟩ = some (.bool false) := by rw [hW3]; simp [go_sem]
  have hz4 : W3.cell? ⟨W.heap.size, 4, none⟩ = some (.bool false) := by rw [hW3]; simp [go_sem]
  have hz5 : W3.cell? ⟨W.heap.size, 5, none⟩ = some (.bool false) := by rw [hW3]; simp [go_sem]
  have hz6 : W3.cell? ⟨W.heap.size, 6, none⟩ = some (.bool false) := by rw [hW3]; simp [go_sem]
  have hz7 : W3.cell? ⟨W.heap.size, 7, none⟩ = some (.bool false) := by rw [hW3]; simp [go_sem]
  have hz8 : W3.cell? ⟨W.heap.size, 8, none⟩ = some (.int .i64 0) := by rw [hW3]; simp [go_sem]
  have hz9 : W3.cell? ⟨W.heap.size, 9, none⟩ = some (.int .u64 0) := by rw [hW3]; simp [go_sem]
  clear hW3
  have HB := Lib.hid hb
  clear hb
  have hs0 := fun W' (h : Save W.heap.size W3.drew W') => (h ⟨W.heap.size + 1, 0, none⟩ (by simp)).trans hc0
  have hs1 := fun W' (h : Save W.heap.size W3.drew W') => (h ⟨W.heap.size + 1, 1, none⟩ (by simp)).trans hc1
  have hs2 := fun W' (h : Save W.heap.size W3.drew W') => (h ⟨W.heap.size + 1, 2, none⟩ (by simp)).trans hc2
  have hs3 := fun W' (h : Save W.heap.size W3.drew W') => (h ⟨W.heap.size + 1, 3, none⟩ (by simp)).trans hc3
  have hs4 := fun W' (h : Save W.heap.size W3.drew W') => (h ⟨W.heap.size + 1, 4, none⟩ (by simp)).trans hc4
  have hs5 := fun W' (h : Save W.heap.size W3.drew W') => (h ⟨W.heap.size + 1, 5, none⟩ (by simp)).trans hc5
  have hs6 := fun W' (h : Save W.heap.size W3.drew W') => (h ⟨W.heap.size + 1, 6, none⟩ (by simp)).trans hc6
  have hs7 := fun W' (h : Save W.heap.size W3.drew W') => (h ⟨W.heap.size + 1, 7, none⟩ (by simp)).trans hc7
  have hs8 := fun W' (h : Save W.heap.size W3.drew W') => (h ⟨W.heap.size + 1, 8, none⟩ (by simp)).trans hc8
  have hs9 := fun W' (h : Save W.heap.size W3.drew W') => (h ⟨W.heap.size + 1, 9, none⟩ (by simp)).trans hc9
  refine wp_region_plan_by (Save W.heap.size) (later_save _) [(0, false), (1, false), (2, true), (3, false), (4, true), (5, false)] (by kernel_rfl) (by kernel_rfl) (fun _ d _ _ _ h => by cases d <;> exact h) ?_
  iterate 2 (refine plan_take (v := ?_) rfl (by kernel_rfl) ?_ ?_; rotate_left; (focus (intro w' hw'; try go_simp; try with_reducible rfl)); simp only [Act.put, List.setIfInBounds_toArray, List.set_cons_zero, List.set_cons_succ])
  refine plan_call rfl (by kernel_rfl) (by go_simp; exact ⟨rfl, rfl⟩) ?_
  refine (field64_any x 54 10 _ HX.out (by decide) (by decide) (by decide)).mono ?_
  rintro e w' ⟨rfl, rfl⟩
  refine ⟨_, rfl, (later_save _).refl _, ?_⟩
  simp only [Act.put, List.setIfInBounds_toArray, List.set_cons_zero, List.set_cons_succ]
  iterate 1 (refine plan_take (v := ?_) rfl (by kernel_rfl) ?_ ?_; rotate_left; (focus (intro w' hw'; try go_simp; try with_reducible rfl)); simp only [Act.put, List.setIfInBounds_toArray, List.set_cons_zero, List.set_cons_succ])
  refine plan_turn rfl (by kernel_rfl) (fun K hK => ?_)
  go_simp
  refine hK _ _ ⟨pte_save_drew (by repeat (first | (with_reducible exact (later_save _).refl _) | (with_reducible refine pte_save_set ?_))), ?_⟩
  iterate 1 (refine plan_take (v := ?_) rfl (by kernel_rfl) ?_ ?_; rotate_left; (focus (intro w' hw'; try go_simp; try with_reducible rfl)); simp only [Act.put, List.setIfInBounds_toArray, List.set_cons_zero, List.set_cons_succ])
  refine plan_end ?_
  clear hs0 hs1 hs2 hs3 hs4 hs5 hs6 hs7 hs8 hs9 hc0 hc1 hc2 hc3 hc4 hc5 hc6 hc7 hc8 hc9
  go_wp2
  refine bodyPost_ret (v := .tuple #[.agg #[.bool (((fieldV x 0 1 : Nat) : Int) == 1), .bool (((fieldV x 1 1 : Nat) : Int) == 1), .bool (((fieldV x 2 1 : Nat) : Int) == 1), .bool (((fieldV x 3 1 : Nat) : Int) == 1), .bool (((fieldV x 4 1 : Nat) : Int) == 1), .bool (((fieldV x 5 1 : Nat) : Int) == 1), .bool (((fieldV x 6 1 : Nat) : Int) == 1), .bool (((fieldV x 7 1 : Nat) : Int) == 1), .int .i64 (wrap64 ((fieldV x 8 2 : Nat) : Int)), .int .u64 ((fieldV x 10 44 : Nat) : Int)], .bool (((fieldV x 54 10 : Nat) : Int) == 0)]) (by simp [results, Try.results67, go_sem, hz0, hz1, hz2, hz3, hz4, hz5, hz6, hz7, hz8, hz9]) rfl ⟨?_, ?_⟩
  rotate_left
  · have hB := HB.out
    repeat (first | (with_reducible exact hB) | (with_reducible refine Below.drew ?_) | (with_reducible refine Below.setCell ?_ (by simp) _))
  rw [rget_eq x]
  have hv := HX.out
  have e : (((fieldV x 54 10 : Nat) : Int) == 0) = (x / 18014398509481984 == 0) := by
    rw [Bool.eq_iff_iff]
    simp only [fieldV, beq_iff_eq, Nat.reducePow]
    omega
  rw [e]
end Go.Proofs.Ytecalibnnfcaeaa

/- Contract of the reference's Put. -/
namespace Go.Proofs.Ytecalibnnfcaeaa
open Go.RowKit

theorem bt_le (b : Bool) : bt b ≤ 1 := by cases b <;> decide

theorem tmod4 (n : Int) : (0 ≤ n.tmod 4 ∧ n.tmod 4 = n % 4) ∨ (n.tmod 4 < 0 ∧ n.tmod 4 + 4 = n % 4) := by
  by_cases h : 0 ≤ n
  · rw [Int.tmod_eq_emod_of_nonneg h]; omega
  · have h1 : (-n).tmod 4 = -n % 4 := Int.tmod_eq_emod_of_nonneg (by omega)
    rw [Int.neg_tmod] at h1
    omega

theorem rput_eq (v r w x u g a d : Bool) (rsw ppn Q : Int) (hp : 0 ≤ ppn ∧ ppn < 18446744073709551616) (hQ : Q = rsw % 4) :
    IntKind.u64.wrap (IntKind.u64.wrap (IntKind.u64.wrap (IntKind.u64.wrap (IntKind.u64.wrap (IntKind.u64.wrap (IntKind.u64.wrap (IntKind.u64.wrap (IntKind.u64.wrap ((bt v : Int) + IntKind.u64.wrap (2 * (bt r : Int))) + IntKind.u64.wrap (4 * (bt w : Int))) + IntKind.u64.wrap (8 * (bt x : Int))) + IntKind.u64.wrap (16 * (bt u : Int))) + IntKind.u64.wrap (32 * (bt g : Int))) + IntKind.u64.wrap (64 * (bt a : Int))) + IntKind.u64.wrap (128 * (bt d : Int))) + IntKind.u64.wrap (256 * IntKind.u64.wrap Q)) + IntKind.u64.wrap (1024 * ppn.tmod 17592186044416)) = ((putV v r w x u g a d rsw ppn : Nat) : Int) := by
  have := bt_le v
  have := bt_le r
  have := bt_le w
  have := bt_le x
  have := bt_le u
  have := bt_le g
  have := bt_le a
  have := bt_le d
  rw [Int.tmod_eq_emod_of_nonneg hp.1]
  have hq : 0 ≤ Q ∧ Q < 4 := by omega
  rw [IntWalk.u64_in (2 * (bt r : Int)) (by omega), IntWalk.u64_in ((bt v : Int) + (2 * (bt r : Int))) (by omega), IntWalk.u64_in (4 * (bt w : Int)) (by omega), IntWalk.u64_in (((bt v : Int) + (2 * (bt r : Int))) + (4 * (bt w : Int))) (by omega), IntWalk.u64_in (8 * (bt x : Int)) (by omega), IntWalk.u64_in ((((bt v : Int) + (2 * (bt r : Int))) + (4 * (bt w : Int))) + (8 * (bt x : Int))) (by omega), IntWalk.u64_in (16 * (bt u : Int)) (by omega), IntWalk.u64_in (((((bt v : Int) + (2 * (bt r : Int))) + (4 * (bt w : Int))) + (8 * (bt x : Int))) + (16 * (bt u : Int))) (by omega), IntWalk.u64_in (32 * (bt g : Int)) (by omega), IntWalk.u64_in ((((((bt v : Int) + (2 * (bt r : Int))) + (4 * (bt w : Int))) + (8 * (bt x : Int))) + (16 * (bt u : Int))) + (32 * (bt g : Int))) (by omega), IntWalk.u64_in (64 * (bt a : Int)) (by omega), IntWalk.u64_in (((((((bt v : Int) + (2 * (bt r : Int))) + (4 * (bt w : Int))) + (8 * (bt x : Int))) + (16 * (bt u : Int))) + (32 * (bt g : Int))) + (64 * (bt a : Int))) (by omega), IntWalk.u64_in (128 * (bt d : Int)) (by omega), IntWalk.u64_in ((((((((bt v : Int) + (2 * (bt r : Int))) + (4 * (bt w : Int))) + (8 * (bt x : Int))) + (16 * (bt u : Int))) + (32 * (bt g : Int))) + (64 * (bt a : Int))) + (128 * (bt d : Int))) (by omega), IntWalk.u64_in Q (by omega), IntWalk.u64_in (256 * Q) (by omega), IntWalk.u64_in (((((((((bt v : Int) + (2 * (bt r : Int))) + (4 * (bt w : Int))) + (8 * (bt x : Int))) + (16 * (bt u : Int))) + (32 * (bt g : Int))) + (64 * (bt a : Int))) + (128 * (bt d : Int))) + 256 * Q) (by omega), IntWalk.u64_in (1024 * (ppn % 17592186044416)) (by omega), IntWalk.u64_in ((((((((((bt v : Int) + (2 * (bt r : Int))) + (4 * (bt w : Int))) + (8 * (bt x : Int))) + (16 * (bt u : Int))) + (32 * (bt g : Int))) + (64 * (bt a : Int))) + (128 * (bt d : Int))) + 256 * Q) + 1024 * (ppn % 17592186044416)) (by omega)]
  unfold putV
  omega

end Go.Proofs.Ytecalibnnfcaeaa

/- Contracts of both PutSatp, of the reference's GetSatp. -/
namespace Go.Proofs.Ytecalibnnfcaeaa
open Go.RowKit

def satpB (asid ppn : Int) : Nat := ppn.toNat % 17592186044416 + 17592186044416 * (asid % 65536).toNat
def satpV (on : Bool) (asid ppn : Int) : Nat := satpB asid ppn + 9223372036854775808 * bt on
theorem satpB_lt (asid ppn : Int) : satpB asid ppn < 1152921504606846976 := by unfold satpB; omega
theorem i64_and16 (n : Int) : bits .and .i64 n 65535 = n % 65536 := by
  show IntKind.i64.wrap ((BitVec.ofInt 64 n &&& BitVec.ofInt 64 65535).toNat : Int) = n % 65536
  have e : (BitVec.ofInt 64 n &&& BitVec.ofInt 64 65535).toNat = (n % 18446744073709551616).toNat % 65536 := by
    rw [BitVec.toNat_and, show (BitVec.ofInt 64 65535).toNat = 2 ^ 16 - 1 from rfl, Nat.and_two_pow_sub_one_eq_mod, BitVec.toNat_ofInt]
    rfl
  rw [e, IntKind.wrap_i64]
  omega
theorem ps_base (asid ppn : Int) (hp : 0 ≤ ppn ∧ ppn < 18446744073709551616) :
    bits .or .u64 (bits .and .u64 ppn 17592186044415) (IntKind.u64.wrap (IntKind.u64.wrap (bits .and .i64 asid 65535) * 17592186044416)) = ((satpB asid ppn : Nat) : Int) := by
  obtain ⟨P, rfl⟩ := Int.eq_ofNat_of_zero_le hp.1
  rw [and_mask P 44 17592186044415 (by decide) rfl (by omega), i64_and16]
  have hP : P % 2 ^ 44 < 17592186044416 := Nat.mod_lt _ (by decide)
  unfold satpB
  rw [show (P : Int).toNat = P from rfl, show (17592186044416 : Nat) = 2 ^ 44 from rfl]
  generalize P % 2 ^ 44 = q at *
  rw [IntWalk.u64_in (asid % 65536) (by omega), IntWalk.u64_in (asid % 65536 * 17592186044416) (by omega)]
  have e2 : asid % 65536 * 17592186044416 = (((asid % 65536).toNat * 2 ^ 44 : Nat) : Int) := by omega
  rw [e2, bits_or_u64_nat _ _ (by omega) (by omega), Nat.or_comm, or_low _ q 44 (by omega)]
  omega
theorem ps_on (asid ppn : Int) : bits .or .u64 ((satpB asid ppn : Nat) : Int) 9223372036854775808 = ((satpV true asid ppn : Nat) : Int) := by
  have h := satpB_lt asid ppn
  have h2 := bits_or_u64_nat (satpB asid ppn) (2 ^ 63) (by omega) (by decide)
  rw [show ((2 ^ 63 : Nat) : Int) = 9223372036854775808 from rfl, or_pow _ 63 (by omega)] at h2
  rw [h2]
  unfold satpV bt
  simp

theorem tmod16 (n : Int) : (0 ≤ n.tmod 65536 ∧ n.tmod 65536 = n % 65536) ∨ (n.tmod 65536 < 0 ∧ n.tmod 65536 + 65536 = n % 65536) := by
  by_cases h : 0 ≤ n
  · rw [Int.tmod_eq_emod_of_nonneg h]; omega
  · have h1 : (-n).tmod 65536 = -n % 65536 := Int.tmod_eq_emod_of_nonneg (by omega)
    rw [Int.neg_tmod] at h1
    omega
theorem rps_eq (on : Bool) (asid ppn Q : Int) (hp : 0 ≤ ppn ∧ ppn < 18446744073709551616) (hQ : Q = asid % 65536) :
    IntKind.u64.wrap (IntKind.u64.wrap (ppn.tmod 17592186044416 + IntKind.u64.wrap (17592186044416 * IntKind.u64.wrap Q)) + IntKind.u64.wrap (9223372036854775808 * ((bt on : Nat) : Int))) = ((satpV on asid ppn : Nat) : Int) := by
  have := bt_le on
  have hq : 0 ≤ Q ∧ Q < 65536 := by omega
  rw [Int.tmod_eq_emod_of_nonneg hp.1, IntWalk.u64_in Q (by omega), IntWalk.u64_in (17592186044416 * Q) (by omega), IntWalk.u64_in (9223372036854775808 * ((bt on : Nat) : Int)) (by omega),
    IntWalk.u64_in (ppn % 17592186044416 + 17592186044416 * Q) (by omega), IntWalk.u64_in _ (by omega)]
  unfold satpV satpB
  omega

theorem rgetsatp_yes (x : Nat) (b : Bool) (W : World) (hx : x < 18446744073709551616) (h : (b = false ∧ x / 1152921504606846976 = 0) ∨ (b = true ∧ x / 1152921504606846976 = 8)) :
    Calls Try.prog 15 #[.int .u64 (x : Int)] W fun e w' => e = .returned (.tuple #[.agg #[.bool b, .int .i64 ((x / 17592186044416 % 65536 : Nat) : Int), .int .u64 ((x % 17592186044416 : Nat) : Int)], .bool true]) ∧ Below W.heap.size W w' := by
  have HX := Lib.hid hx
  have f1 : fieldV x 44 16 = x / 17592186044416 % 65536 := rfl
  have f2 : fieldV x 0 44 = x % 17592186044416 := by show x / 1 % _ = _; rw [Nat.div_one]
  have hk : x / 17592186044416 % 65536 < 65536 := Nat.mod_lt _ (by decide)
  have F1 := Lib.hid f1
  have F2 := Lib.hid f2
  have f3 : fieldV x 60 4 = x / 1152921504606846976 := Nat.mod_eq_of_lt (by show x / 1152921504606846976 < 16; omega)
  clear f1 f2
  rcases h with ⟨rfl, h⟩ | ⟨rfl, h⟩
  all_goals
    rw [h] at f3
    have F3 := Lib.hid f3
    clear f3 h hx
    go_enter Try.func15, Try.ntmps15
    go_wp2_with fail
    refine (field64_any x 60 4 _ HX.out (by decide) (by decide) (by decide)).mono ?_
    rintro e w' ⟨rfl, rfl⟩
    rw [show fieldV x (60 : Int).toNat (4 : Int).toNat = _ from F3.out]
    go_wp2_with fail
    refine (field_drew x 44 16 _ HX.out (by decide) (by decide) (by decide) (by decide)).mono ?_
    rintro e w' ⟨rfl, rfl⟩
    rw [show fieldV x (44 : Int).toNat (16 : Int).toNat = _ from F1.out]
    go_wp2_with fail
    refine (field_drew x 0 44 _ HX.out (by decide) (by decide) (by decide) (by decide)).mono ?_
    rintro e w' ⟨rfl, rfl⟩
    rw [show fieldV x (0 : Int).toNat (44 : Int).toNat = _ from F2.out]
    go_wp2
  · exact bodyPost_ret (v := .tuple #[.agg #[.bool false, .int .i64 ((x / 17592186044416 % 65536 : Nat) : Int), .int .u64 ((x % 17592186044416 : Nat) : Int)], .bool true]) (by simp [results, Try.results15, go_sem]) rfl ⟨rfl, by go_grown⟩
  · exact bodyPost_ret (v := .tuple #[.agg #[.bool true, .int .i64 ((x / 17592186044416 % 65536 : Nat) : Int), .int .u64 ((x % 17592186044416 : Nat) : Int)], .bool true]) (by simp [results, Try.results15, go_sem]) rfl ⟨rfl, by go_grown⟩

theorem rgetsatp_no (x : Nat) (W : World) (hx : x < 18446744073709551616) (h0 : x / 1152921504606846976 ≠ 0) (h8 : x / 1152921504606846976 ≠ 8) :
    Calls Try.prog 15 #[.int .u64 (x : Int)] W fun e w' => e = .returned (.tuple #[.agg #[.bool false, .int .i64 0, .int .u64 0], .bool false]) ∧ Below W.heap.size W w' := by
  have HX := Lib.hid hx
  have f3 : fieldV x 60 4 = x / 1152921504606846976 := Nat.mod_eq_of_lt (by show x / 1152921504606846976 < 16; omega)
  have F3 := Lib.hid f3
  generalize x / 1152921504606846976 = M at *
  have n0 : ((M : Int) != 0) = true := by rw [bne_iff_ne]; omega
  have n8 : ((M : Int) != 8) = true := by rw [bne_iff_ne]; omega
  clear h0 h8 f3
  go_enter Try.func15, Try.ntmps15
  go_wp2_with fail
  refine (field64_any x 60 4 _ HX.out (by decide) (by decide) (by decide)).mono ?_
  rintro e w' ⟨rfl, rfl⟩
  rw [show fieldV x (60 : Int).toNat (4 : Int).toNat = _ from F3.out]
  go_wp2
  exact bodyPost_ret (v := .tuple #[.agg #[.bool false, .int .i64 0, .int .u64 0], .bool false]) (by simp [results, Try.results15, go_sem]) rfl ⟨rfl, by go_grown⟩
end Go.Proofs.Ytecalibnnfcaeaa

/- Contracts: Leaf, Right, allows, Check, of both sides. -/
namespace Go.Proofs.Ytecalibnnfcaeaa
open Go.RowKit

def rightB (v r w : Bool) : Bool := v && (r || !w)
def leafB (r x : Bool) : Bool := r || x
def allowsB (r w x d : Bool) (acc : Int) (mxr : Bool) : Bool := if acc == 0 then x else if acc == 1 then r || (mxr && x) else if acc == 2 then w && d else false
def checkB (v r w x u a d : Bool) (acc : Int) (user sum mxr : Bool) : Bool :=
  rightB v r w && leafB r x && a && !(user && !u) && !(!user && u && (acc == 0 || !sum)) && allowsB r w x d acc mxr
def pteO (v r w x u g a d : Bool) (rsw ppn : Int) : Obj := .cells #[.bool v, .bool r, .bool w, .bool x, .bool u, .bool g, .bool a, .bool d, .int .i64 rsw, .int .u64 ppn] 95

theorem perm_leaf_any (v r w x u g a d : Bool) (rsw ppn : Int) (W : World) :
    Calls Try.prog 77 #[.agg #[.bool v, .bool r, .bool w, .bool x, .bool u, .bool g, .bool a, .bool d, .int .i64 rsw, .int .u64 ppn]] W fun e w' => e = .returned (.bool (leafB r x)) ∧ W.alloc (.cells #[.bool v, .bool r, .bool w, .bool x, .bool u, .bool g, .bool a, .bool d, .int .i64 rsw, .int .u64 ppn] 95) = w' := by
  cases r
  all_goals
    go_enter Try.func77, Try.ntmps77
    go_wp2
    go_ret
    exact ⟨rfl, rfl⟩
theorem perm_right_any (v r w x u g a d : Bool) (rsw ppn : Int) (W : World) :
    Calls Try.prog 76 #[.agg #[.bool v, .bool r, .bool w, .bool x, .bool u, .bool g, .bool a, .bool d, .int .i64 rsw, .int .u64 ppn]] W fun e w' => e = .returned (.bool (rightB v r w)) ∧ W.alloc (.cells #[.bool v, .bool r, .bool w, .bool x, .bool u, .bool g, .bool a, .bool d, .int .i64 rsw, .int .u64 ppn] 95) = w' := by
  cases v <;> cases r
  all_goals
    go_enter Try.func76, Try.ntmps76
    go_wp2
    go_ret
    exact ⟨rfl, rfl⟩

theorem allows_any (v r w x u g a d : Bool) (rsw ppn acc : Int) (mxr : Bool) (W : World) :
    Calls Try.prog 78 #[.agg #[.bool v, .bool r, .bool w, .bool x, .bool u, .bool g, .bool a, .bool d, .int .i64 rsw, .int .u64 ppn], .int .i64 acc, .bool mxr] W fun e w' => e = .returned (.bool (allowsB r w x d acc mxr)) ∧ W.alloc (.cells #[.bool v, .bool r, .bool w, .bool x, .bool u, .bool g, .bool a, .bool d, .int .i64 rsw, .int .u64 ppn] 95) = w' := by
  by_cases h0 : acc = 0
  · subst h0
    go_enter Try.func78, Try.ntmps78
    go_wp2
    go_ret
    exact ⟨rfl, rfl⟩
  · by_cases h1 : acc = 1
    · subst h1
      cases r <;> cases mxr
      all_goals
        go_enter Try.func78, Try.ntmps78
        go_wp2
        go_ret
        exact ⟨rfl, rfl⟩
    · by_cases h2 : acc = 2
      · subst h2
        cases w
        all_goals
          go_enter Try.func78, Try.ntmps78
          go_wp2
          go_ret
          exact ⟨rfl, rfl⟩
      · have e0 : (acc == 0) = false := by rw [beq_eq_false_iff_ne]; exact h0
        have e1 : (acc == 1) = false := by rw [beq_eq_false_iff_ne]; exact h1
        have e2 : (acc == 2) = false := by rw [beq_eq_false_iff_ne]; exact h2
        clear h0 h1 h2
        go_enter Try.func78, Try.ntmps78
        go_wp2
        go_ret
        exact ⟨by simp [allowsB, e0, e1, e2], rfl⟩
end Go.Proofs.Ytecalibnnfcaeaa

/- Contracts: Check, of both sides. -/
namespace Go.Proofs.Ytecalibnnfcaeaa
open Go.RowKit

set_option maxHeartbeats 8000000 in
theorem perm_check_any (v r w x u g a d : Bool) (rsw ppn acc : Int) (user sum mxr : Bool) (W : World) :
    Calls Try.prog 55 #[.agg #[.bool v, .bool r, .bool w, .bool x, .bool u, .bool g, .bool a, .bool d, .int .i64 rsw, .int .u64 ppn], .int .i64 acc, .agg #[.bool user, .bool sum, .bool mxr]] W fun e w' => e = .returned (.bool (checkB v r w x u a d acc user sum mxr)) ∧ Below W.heap.size W w' := by
  have key : ∀ R L E A : Bool, rightB v r w = R → leafB r x = L → (acc == 0) = E → allowsB r w x d acc mxr = A →
      Calls Try.prog 55 #[.agg #[.bool v, .bool r, .bool w, .bool x, .bool u, .bool g, .bool a, .bool d, .int .i64 rsw, .int .u64 ppn], .int .i64 acc, .agg #[.bool user, .bool sum, .bool mxr]] W fun e w' => e = .returned (.bool (R && L && a && !(user && !u) && !(!user && u && (E || !sum)) && A)) ∧ Below W.heap.size W w' := by
    intro R L E A hR hL hE hA
    have HR := Lib.hid hR
    have HL := Lib.hid hL
    have HA := Lib.hid hA
    clear hR hL hA
    cases R
    · go_enter Try.func55, Try.ntmps55
      go_wp2_with (go_at_call 76; refine (perm_right_any _ _ _ _ _ _ _ _ _ _ _).mono ?_; rintro e w' ⟨rfl, rfl⟩; rw [HR.out])
      go_ret
      exact ⟨rfl, by go_grown⟩
    cases L
    · go_enter Try.func55, Try.ntmps55
      go_wp2_with (first | (go_at_call 76; refine (perm_right_any _ _ _ _ _ _ _ _ _ _ _).mono ?_; rintro e w' ⟨rfl, rfl⟩; rw [HR.out]) | (go_at_call 77; refine (perm_leaf_any _ _ _ _ _ _ _ _ _ _ _).mono ?_; rintro e w' ⟨rfl, rfl⟩; rw [HL.out]))
      go_ret
      exact ⟨rfl, by go_grown⟩
    cases a
    · go_enter Try.func55, Try.ntmps55
      go_wp2_with (first | (go_at_call 76; refine (perm_right_any _ _ _ _ _ _ _ _ _ _ _).mono ?_; rintro e w' ⟨rfl, rfl⟩; rw [HR.out]) | (go_at_call 77; refine (perm_leaf_any _ _ _ _ _ _ _ _ _ _ _).mono ?_; rintro e w' ⟨rfl, rfl⟩; rw [HL.out]))
      go_ret
      exact ⟨rfl, by go_grown⟩
    cases user <;> cases u <;> cases E <;> cases sum
    all_goals
      go_enter Try.func55, Try.ntmps55
      go_wp2_with (first | (go_at_call 76; refine (perm_right_any _ _ _ _ _ _ _ _ _ _ _).mono ?_; rintro e w' ⟨rfl, rfl⟩; rw [HR.out]) | (go_at_call 77; refine (perm_leaf_any _ _ _ _ _ _ _ _ _ _ _).mono ?_; rintro e w' ⟨rfl, rfl⟩; rw [HL.out]) | (go_at_call 78; refine (allows_any _ _ _ _ _ _ _ _ _ _ _ _ _).mono ?_; rintro e w' ⟨rfl, rfl⟩; rw [HA.out]))
      go_ret
      exact ⟨rfl, by go_grown⟩
  exact key _ _ _ _ rfl rfl rfl rfl
end Go.Proofs.Ytecalibnnfcaeaa

/- Contract: the reference's Check. -/
namespace Go.Proofs.Ytecalibnnfcaeaa
open Go.RowKit

/-- The reference's answer, as it is spelled there. -/
def rcheckB (v r w x u a d : Bool) (acc : Int) (user sum mxr : Bool) : Bool :=
  if !v || (w && !r) || (!r && !x) || !a then false
  else if (user != u) && (user || acc == 0 || !sum) then false
  else if acc == 0 then x else if acc == 1 then r || mxr else acc == 2 && w && d

theorem rcheckB_eq (v r w x u a d : Bool) (acc : Int) (user sum mxr : Bool) : rcheckB v r w x u a d acc user sum mxr = checkB v r w x u a d acc user sum mxr := by
  unfold rcheckB checkB rightB leafB allowsB
  generalize (acc == 0) = e0
  generalize (acc == 1) = e1
  generalize (acc == 2) = e2
  cases v <;> cases r <;> cases w <;> cases x <;> cases a <;> cases u <;> cases user <;> simp <;> (cases sum <;> cases mxr <;> cases e0 <;> cases e1 <;> cases e2 <;> simp)

set_option maxHeartbeats 16000000 in
theorem perm_rcheck_any (v r w x u g a d : Bool) (rsw ppn acc : Int) (user sum mxr : Bool) (W : World) :
    Calls Try.prog 49 #[.agg #[.bool v, .bool r, .bool w, .bool x, .bool u, .bool g, .bool a, .bool d, .int .i64 rsw, .int .u64 ppn], .int .i64 acc, .agg #[.bool user, .bool sum, .bool mxr]] W fun e w' => e = .returned (.bool (checkB v r w x u a d acc user sum mxr)) ∧ Below W.heap.size W w' := by
  rw [← rcheckB_eq]
  have key : ∀ E0 E1 E2 : Bool, (acc == 0) = E0 → (acc == 1) = E1 → (acc == 2) = E2 →
      Calls Try.prog 49 #[.agg #[.bool v, .bool r, .bool w, .bool x, .bool u, .bool g, .bool a, .bool d, .int .i64 rsw, .int .u64 ppn], .int .i64 acc, .agg #[.bool user, .bool sum, .bool mxr]] W fun e w' => e = .returned (.bool (rcheckB v r w x u a d acc user sum mxr)) ∧ Below W.heap.size W w' := by
    intro E0 E1 E2 h0 h1 h2
    cases v
    · go_enter Try.func49, Try.ntmps49; go_wp2; all_goals (go_ret; exact ⟨by simp [rcheckB, *], by go_grown⟩)
    cases r
    · cases w
      · cases x
        · go_enter Try.func49, Try.ntmps49; go_wp2; all_goals (go_ret; exact ⟨by simp [rcheckB, *], by go_grown⟩)
        · cases a
          · go_enter Try.func49, Try.ntmps49; go_wp2; all_goals (go_ret; exact ⟨by simp [rcheckB, *], by go_grown⟩)
          · cases user
            · cases u
              · cases E0
                · cases E1
                  · cases E2
                    · go_enter Try.func49, Try.ntmps49; go_wp2; all_goals (go_ret; exact ⟨by simp [rcheckB, *], by go_grown⟩)
                    · go_enter Try.func49, Try.ntmps49; go_wp2; all_goals (go_ret; exact ⟨by simp [rcheckB, *], by go_grown⟩)
                  · go_enter Try.func49, Try.ntmps49; go_wp2; all_goals (go_ret; exact ⟨by simp [rcheckB, *], by go_grown⟩)
                · go_enter Try.func49, Try.ntmps49; go_wp2; all_goals (go_ret; exact ⟨by simp [rcheckB, *], by go_grown⟩)
              · cases E0
                · cases sum
                  · go_enter Try.func49, Try.ntmps49; go_wp2; all_goals (go_ret; exact ⟨by simp [rcheckB, *], by go_grown⟩)
                  · cases E1
                    · cases E2
                      · go_enter Try.func49, Try.ntmps49; go_wp2; all_goals (go_ret; exact ⟨by simp [rcheckB, *], by go_grown⟩)
                      · go_enter Try.func49, Try.ntmps49; go_wp2; all_goals (go_ret; exact ⟨by simp [rcheckB, *], by go_grown⟩)
                    · go_enter Try.func49, Try.ntmps49; go_wp2; all_goals (go_ret; exact ⟨by simp [rcheckB, *], by go_grown⟩)
                · go_enter Try.func49, Try.ntmps49; go_wp2; all_goals (go_ret; exact ⟨by simp [rcheckB, *], by go_grown⟩)
            · cases u
              · go_enter Try.func49, Try.ntmps49; go_wp2; all_goals (go_ret; exact ⟨by simp [rcheckB, *], by go_grown⟩)
              · cases E0
                · cases E1
                  · cases E2
                    · go_enter Try.func49, Try.ntmps49; go_wp2; all_goals (go_ret; exact ⟨by simp [rcheckB, *], by go_grown⟩)
                    · go_enter Try.func49, Try.ntmps49; go_wp2; all_goals (go_ret; exact ⟨by simp [rcheckB, *], by go_grown⟩)
                  · go_enter Try.func49, Try.ntmps49; go_wp2; all_goals (go_ret; exact ⟨by simp [rcheckB, *], by go_grown⟩)
                · go_enter Try.func49, Try.ntmps49; go_wp2; all_goals (go_ret; exact ⟨by simp [rcheckB, *], by go_grown⟩)
      · go_enter Try.func49, Try.ntmps49; go_wp2; all_goals (go_ret; exact ⟨by simp [rcheckB, *], by go_grown⟩)
    · cases a
      · go_enter Try.func49, Try.ntmps49; go_wp2; all_goals (go_ret; exact ⟨by simp [rcheckB, *], by go_grown⟩)
      · cases user
        · cases u
          · cases E0
            · cases E1
              · cases E2
                · go_enter Try.func49, Try.ntmps49; go_wp2; all_goals (go_ret; exact ⟨by simp [rcheckB, *], by go_grown⟩)
                · cases w
                  · go_enter Try.func49, Try.ntmps49; go_wp2; all_goals (go_ret; exact ⟨by simp [rcheckB, *], by go_grown⟩)
                  · go_enter Try.func49, Try.ntmps49; go_wp2; all_goals (go_ret; exact ⟨by simp [rcheckB, *], by go_grown⟩)
              · go_enter Try.func49, Try.ntmps49; go_wp2; all_goals (go_ret; exact ⟨by simp [rcheckB, *], by go_grown⟩)
            · go_enter Try.func49, Try.ntmps49; go_wp2; all_goals (go_ret; exact ⟨by simp [rcheckB, *], by go_grown⟩)
          · cases E0
            · cases sum
              · go_enter Try.func49, Try.ntmps49; go_wp2; all_goals (go_ret; exact ⟨by simp [rcheckB, *], by go_grown⟩)
              · cases E1
                · cases E2
                  · go_enter Try.func49, Try.ntmps49; go_wp2; all_goals (go_ret; exact ⟨by simp [rcheckB, *], by go_grown⟩)
                  · cases w
                    · go_enter Try.func49, Try.ntmps49; go_wp2; all_goals (go_ret; exact ⟨by simp [rcheckB, *], by go_grown⟩)
                    · go_enter Try.func49, Try.ntmps49; go_wp2; all_goals (go_ret; exact ⟨by simp [rcheckB, *], by go_grown⟩)
                · go_enter Try.func49, Try.ntmps49; go_wp2; all_goals (go_ret; exact ⟨by simp [rcheckB, *], by go_grown⟩)
            · go_enter Try.func49, Try.ntmps49; go_wp2; all_goals (go_ret; exact ⟨by simp [rcheckB, *], by go_grown⟩)
        · cases u
          · go_enter Try.func49, Try.ntmps49; go_wp2; all_goals (go_ret; exact ⟨by simp [rcheckB, *], by go_grown⟩)
          · cases E0
            · cases E1
              · cases E2
                · go_enter Try.func49, Try.ntmps49; go_wp2; all_goals (go_ret; exact ⟨by simp [rcheckB, *], by go_grown⟩)
                · cases w
                  · go_enter Try.func49, Try.ntmps49; go_wp2; all_goals (go_ret; exact ⟨by simp [rcheckB, *], by go_grown⟩)
                  · go_enter Try.func49, Try.ntmps49; go_wp2; all_goals (go_ret; exact ⟨by simp [rcheckB, *], by go_grown⟩)
              · go_enter Try.func49, Try.ntmps49; go_wp2; all_goals (go_ret; exact ⟨by simp [rcheckB, *], by go_grown⟩)
            · go_enter Try.func49, Try.ntmps49; go_wp2; all_goals (go_ret; exact ⟨by simp [rcheckB, *], by go_grown⟩)
  exact key _ _ _ rfl rfl rfl
end Go.Proofs.Ytecalibnnfcaeaa
