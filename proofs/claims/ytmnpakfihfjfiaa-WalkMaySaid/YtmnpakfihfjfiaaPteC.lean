/- Contracts: the reference's Join; Leaf, Right; flags; Put. -/
import Derived.Test.YtmnpakfihfjfiaaPteB
namespace Go.Proofs.Ytmnpakfihfjfiaa
open Go.RowKit

theorem at_eq (ppn : Nat) : ppn % 4503599627370496 * 4096 = ppn * 4096 % 18446744073709551616 := by omega
theorem rjoin_fin12 (ppn va : Nat) : IntKind.u64.wrap (IntKind.u64.wrap ((ppn : Int) * 4096 % 18446744073709551616 - ((ppn : Int) * 4096 % 18446744073709551616).tmod 4096) + (va : Int).tmod 4096) = ((ppn * 4096 % 18446744073709551616 / 4096 * 4096 + va % 4096 : Nat) : Int) := by
  rw [Int.tmod_eq_emod_of_nonneg (by omega), Int.tmod_eq_emod_of_nonneg (by omega), IntKind.wrap_u64, IntKind.wrap_u64]
  omega
theorem rjoin_fin21 (ppn va : Nat) : IntKind.u64.wrap (IntKind.u64.wrap ((ppn : Int) * 4096 % 18446744073709551616 - ((ppn : Int) * 4096 % 18446744073709551616).tmod 2097152) + (va : Int).tmod 2097152) = ((ppn * 4096 % 18446744073709551616 / 2097152 * 2097152 + va % 2097152 : Nat) : Int) := by
  rw [Int.tmod_eq_emod_of_nonneg (by omega), Int.tmod_eq_emod_of_nonneg (by omega), IntKind.wrap_u64, IntKind.wrap_u64]
  omega
theorem rjoin_fin30 (ppn va : Nat) : IntKind.u64.wrap (IntKind.u64.wrap ((ppn : Int) * 4096 % 18446744073709551616 - ((ppn : Int) * 4096 % 18446744073709551616).tmod 1073741824) + (va : Int).tmod 1073741824) = ((ppn * 4096 % 18446744073709551616 / 1073741824 * 1073741824 + va % 1073741824 : Nat) : Int) := by
  rw [Int.tmod_eq_emod_of_nonneg (by omega), Int.tmod_eq_emod_of_nonneg (by omega), IntKind.wrap_u64, IntKind.wrap_u64]
  omega
/-! Entries. -/
structure Pte where
  v : Bool
  r : Bool
  w : Bool
  x : Bool
  u : Bool
  g : Bool
  a : Bool
  d : Bool
  rsw : Int
  ppn : Int
def Pte.val (p : Pte) : Value := .agg #[.bool p.v, .bool p.r, .bool p.w, .bool p.x, .bool p.u, .bool p.g, .bool p.a, .bool p.d, .int .i64 p.rsw, .int .u64 p.ppn]

theorem leaf_any (v r w x u g a d : Bool) (rsw ppn : Int) (W : World) :
    Calls Try.prog 23 #[.agg #[.bool v, .bool r, .bool w, .bool x, .bool u, .bool g, .bool a, .bool d, .int .i64 rsw, .int .u64 ppn]] W fun e w' => e = .returned (.bool (r || x)) ∧ Below W.heap.size W w' := by
  cases r
  all_goals
    go_enter Try.func23, Try.ntmps23
    go_wp2
    go_ret
    exact ⟨rfl, (Below.refl _ _).alloc (Nat.le_refl _) _⟩
theorem right_any (v r w x u g a d : Bool) (rsw ppn : Int) (W : World) :
    Calls Try.prog 34 #[.agg #[.bool v, .bool r, .bool w, .bool x, .bool u, .bool g, .bool a, .bool d, .int .i64 rsw, .int .u64 ppn]] W fun e w' => e = .returned (.bool (v && (r || !w))) ∧ Below W.heap.size W w' := by
  cases v <;> cases r
  all_goals
    go_enter Try.func34, Try.ntmps34
    go_wp2
    go_ret
    exact ⟨rfl, (Below.refl _ _).alloc (Nat.le_refl _) _⟩

def bt (b : Bool) : Nat := if b then 1 else 0
/-- The word of an entry. -/
def putV (v r w x u g a d : Bool) (rsw ppn : Int) : Nat :=
  bt v + 2 * bt r + 4 * bt w + 8 * bt x + 16 * bt u + 32 * bt g + 64 * bt a + 128 * bt d + 256 * (rsw % 4).toNat + 1024 * (ppn.toNat % 17592186044416)

def lowL (l : List Bool) : Nat → Nat
  | 0 => 0
  | j + 1 => lowL l j + 2 ^ j * bt (l.getD j false)
theorem lowL_lt (l : List Bool) : ∀ j, lowL l j < 2 ^ j
  | 0 => by simp [lowL]
  | j + 1 => by
    have := lowL_lt l j
    have hb : 2 ^ j * bt (l.getD j false) ≤ 2 ^ j := by unfold bt; split <;> simp
    rw [lowL, Nat.pow_succ]
    omega
theorem or_pow (x i : Nat) (h : x / 2 ^ i % 2 = 0) : x ||| 2 ^ i = x + 2 ^ i := by
  have hp := Nat.two_pow_pos i
  have h1 : (x ||| 2 ^ i) % 2 ^ i = x % 2 ^ i := by rw [Nat.or_mod_two_pow, Nat.mod_self, Nat.or_zero]
  have h2 : (x ||| 2 ^ i) / 2 ^ i = x / 2 ^ i + 1 := by
    rw [Nat.or_div_two_pow, Nat.div_self hp]
    have := or_low (x / 2 ^ i / 2) 1 1 (by decide)
    rw [show x / 2 ^ i / 2 * 2 ^ 1 = x / 2 ^ i by omega] at this
    exact this
  have h3 := Nat.div_add_mod (x ||| 2 ^ i) (2 ^ i)
  have h4 := Nat.div_add_mod x (2 ^ i)
  rw [h1, h2, Nat.mul_add] at h3
  omega
def baseV (rsw ppn : Int) : Nat := 256 * (rsw % 4).toNat + 1024 * (ppn.toNat % 17592186044416)
theorem baseV_lt (rsw ppn : Int) : baseV rsw ppn < 18014398509481984 := by unfold baseV; omega
theorem i64_and3 (n : Int) : bits .and .i64 n 3 = n % 4 := by
  show IntKind.i64.wrap ((BitVec.ofInt 64 n &&& BitVec.ofInt 64 3).toNat : Int) = n % 4
  have e : (BitVec.ofInt 64 n &&& BitVec.ofInt 64 3).toNat = (n % 18446744073709551616).toNat % 4 := by
    rw [BitVec.toNat_and, show (BitVec.ofInt 64 3).toNat = 2 ^ 2 - 1 from rfl, Nat.and_two_pow_sub_one_eq_mod, BitVec.toNat_ofInt]
    rfl
  rw [e, IntKind.wrap_i64]
  omega
theorem base_eq (rsw ppn : Int) (hp : 0 ≤ ppn ∧ ppn < 18446744073709551616) :
    bits .or .u64 (IntKind.u64.wrap (bits .and .u64 ppn 17592186044415 * 1024)) (IntKind.u64.wrap (IntKind.u64.wrap (bits .and .i64 rsw 3) * 256)) = ((baseV rsw ppn : Nat) : Int) := by
  obtain ⟨P, rfl⟩ := Int.eq_ofNat_of_zero_le hp.1
  rw [and_mask P 44 17592186044415 (by decide) rfl (by omega), i64_and3]
  have hP : P % 2 ^ 44 < 17592186044416 := Nat.mod_lt _ (by decide)
  unfold baseV
  rw [show (P : Int).toNat = P from rfl, show (17592186044416 : Nat) = 2 ^ 44 from rfl]
  generalize P % 2 ^ 44 = q at *
  rw [IntWalk.u64_in ((q : Int) * 1024) (by omega), IntWalk.u64_in (rsw % 4) (by omega), IntWalk.u64_in (rsw % 4 * 256) (by omega)]
  have e1 : (q : Int) * 1024 = ((q * 2 ^ 10 : Nat) : Int) := by omega
  have e2 : rsw % 4 * 256 = ((256 * (rsw % 4).toNat : Nat) : Int) := by omega
  rw [e1, e2, bits_or_u64_nat _ _ (by omega) (by omega), or_low q _ 10 (by omega)]
  omega
theorem put_round (l : List Bool) (rsw ppn : Int) (j : Nat) (hj : j < 8) (hb : l.getD j false = true) :
    bits .or .u64 ((baseV rsw ppn + lowL l j : Nat) : Int) ((2 ^ j : Nat) : Int) = ((baseV rsw ppn + lowL l (j + 1) : Nat) : Int) := by
  have h1 := lowL_lt l j
  have h2 := baseV_lt rsw ppn
  have h3 : 2 ^ j ≤ 2 ^ 7 := Nat.pow_le_pow_right (by decide) (by omega)
  have h4 : baseV rsw ppn % 2 ^ (j + 1) = 0 := by
    have : baseV rsw ppn % 256 = 0 := by unfold baseV; omega
    refine Nat.mod_eq_zero_of_dvd (Nat.dvd_trans (Nat.pow_dvd_pow 2 (show j + 1 ≤ 8 by omega)) (Nat.dvd_of_mod_eq_zero this))
  have h5 : (baseV rsw ppn + lowL l j) / 2 ^ j % 2 = 0 := by
    obtain ⟨k, hk⟩ := Nat.dvd_of_mod_eq_zero h4
    rw [hk, Nat.pow_succ, Nat.mul_assoc, Nat.mul_add_div (Nat.two_pow_pos j), Nat.div_eq_of_lt h1]
    omega
  rw [bits_or_u64_nat _ _ (by omega) (by omega), or_pow _ _ h5]
  simp only [lowL, hb, bt, if_true]
  omega
theorem put_round' (l : List Bool) (rsw ppn : Int) (j : Nat) (hj : j < 8) (hb : l.getD j false = true) :
    bits .or .u64 (((baseV rsw ppn : Nat) : Int) + ((lowL l j : Nat) : Int)) (IntKind.u64.wrap ((2 : Int) ^ j)) = ((baseV rsw ppn + lowL l (j + 1) : Nat) : Int) := by
  have h3 : 2 ^ j ≤ 2 ^ 7 := Nat.pow_le_pow_right (by decide) (by omega)
  rw [← put_round l rsw ppn j hj hb]
  have e : (2 : Int) ^ j = ((2 ^ j : Nat) : Int) := by simp
  rw [e]
  generalize 2 ^ j = P at *
  rw [IntWalk.u64_in _ (by omega), Int.natCast_add]
theorem put_skip (l : List Bool) (rsw ppn : Int) (j : Nat) (hb : l.getD j false = false) : baseV rsw ppn + lowL l (j + 1) = baseV rsw ppn + lowL l j := by
  rw [lowL, hb]; simp [bt]
theorem put_last (v r w x u g a d : Bool) (rsw ppn : Int) : baseV rsw ppn + lowL [v, r, w, x, u, g, a, d] 8 = putV v r w x u g a d rsw ppn := by
  simp [lowL, putV, baseV]
  omega

theorem getfn_any (x : Nat) (i : Int) (p : Addr) (W : World) (hx : x < 18446744073709551616) (hi : 0 ≤ i) (hi2 : i ≤ 7) (hc : W.cell? p = some (.int .u64 (x : Int))) :
    Calls Try.prog 56 #[.int .i64 i, .pointer (some p)] W fun e w' => e = .returned (.bool (x / 2 ^ i.toNat % 2 == 1)) ∧ W = w' := by
  go_enter Try.func56, Try.ntmps56
  go_wp2
  go_ret
  refine ⟨congrArg (fun b => Ending.returned (.bool b)) ?_, rfl⟩
  show (bits .and .u64 ((x : Int) / 2 ^ i.toNat) 1 == 1) = _
  have h : x / 2 ^ i.toNat ≤ x := Nat.div_le_self _ _
  have e : ((x : Int) / 2 ^ i.toNat) = ((x / 2 ^ i.toNat : Nat) : Int) := by simp
  rw [e]
  generalize x / 2 ^ i.toNat = y at *
  rw [and_mask y 1 1 (by decide) rfl (by omega), show (2 : Nat) ^ 1 = 2 from rfl]
  rcases Nat.mod_two_eq_zero_or_one y with hy | hy <;> rw [hy] <;> rfl

def bitB (x i : Nat) : Bool := x / 2 ^ i % 2 == 1
/-- The entry of a word. -/
def entryV (x : Nat) : Value := .agg #[.bool (bitB x 0), .bool (bitB x 1), .bool (bitB x 2), .bool (bitB x 3), .bool (bitB x 4), .bool (bitB x 5), .bool (bitB x 6), .bool (bitB x 7), .int .i64 ((x / 256 % 4 : Nat) : Int), .int .u64 ((x / 1024 % 17592186044416 : Nat) : Int)]
end Go.Proofs.Ytmnpakfihfjfiaa
