/- Contracts of both PutSatp, of the reference's GetSatp. -/
import Derived.Test.YtikgdnlnhmikgaaPteH
namespace Go.Proofs.Ytikgdnlnhmikgaa
open Go.RowKit

def satpB (asid ppn : Int) : Nat := ppn.toNat % 17592186044416 + 17592186044416 * (asid % 65536).toNat
def satpV (on : Bool) (asid ppn : Int) : Nat := satpB asid ppn + 9223372036854775808 * bt on
theorem satpB_lt (asid ppn : Int) : satpB asid ppn < 1152921504606846976 := by unfold satpB; omega
theorem i64_and16 (n : Int) : bits .and .i64 n 65535 = n % 65536 := by
  show IntKind.i64.wrap ((BitVec.ofInt 64 n &&& BitVec.ofInt 64 65535).toNat : Int) = n % 65536
  have e : (BitVec.ofInt 64 n &&& BitVec.ofInt 64 65535).toNat = (n % 18446744073709551616).toNat % 65536 := by
    rw [BitVec.toNat_and, show (BitVec.ofInt 64 65535).toNat = 2 ^ 16 - 1 from rfl, Nat.and_two_pow_sub_one_eq_mod, BitVec.toNat_ofInt]
    rfl
  rw [e, IntKind.wrap_i64]
  omega
theorem ps_base (asid ppn : Int) (hp : 0 ≤ ppn ∧ ppn < 18446744073709551616) :
    bits .or .u64 (bits .and .u64 ppn 17592186044415) (IntKind.u64.wrap (IntKind.u64.wrap (bits .and .i64 asid 65535) * 17592186044416)) = ((satpB asid ppn : Nat) : Int) := by
  obtain ⟨P, rfl⟩ := Int.eq_ofNat_of_zero_le hp.1
  rw [and_mask P 44 17592186044415 (by decide) rfl (by omega), i64_and16]
  have hP : P % 2 ^ 44 < 17592186044416 := Nat.mod_lt _ (by decide)
  unfold satpB
  rw [show (P : Int).toNat = P from rfl, show (17592186044416 : Nat) = 2 ^ 44 from rfl]
  generalize P % 2 ^ 44 = q at *
  rw [IntWalk.u64_in (asid % 65536) (by omega), IntWalk.u64_in (asid % 65536 * 17592186044416) (by omega)]
  have e2 : asid % 65536 * 17592186044416 = (((asid % 65536).toNat * 2 ^ 44 : Nat) : Int) := by omega
  rw [e2, bits_or_u64_nat _ _ (by omega) (by omega), Nat.or_comm, or_low _ q 44 (by omega)]
  omega
theorem ps_on (asid ppn : Int) : bits .or .u64 ((satpB asid ppn : Nat) : Int) 9223372036854775808 = ((satpV true asid ppn : Nat) : Int) := by
  have h := satpB_lt asid ppn
  have h2 := bits_or_u64_nat (satpB asid ppn) (2 ^ 63) (by omega) (by decide)
  rw [show ((2 ^ 63 : Nat) : Int) = 9223372036854775808 from rfl, or_pow _ 63 (by omega)] at h2
  rw [h2]
  unfold satpV bt
  simp

theorem putsatp_any (on : Bool) (asid ppn : Int) (W : World) (hp : 0 ≤ ppn ∧ ppn < 18446744073709551616) :
    Calls Try.prog 14 #[.agg #[.bool on, .int .i64 asid, .int .u64 ppn]] W fun e w' => e = .returned (.int .u64 ((satpV on asid ppn : Nat) : Int)) ∧ Below W.heap.size W w' := by
  have HE := Lib.hid (ps_base asid ppn hp)
  clear hp
  cases on
  all_goals
    go_enter Try.func14, Try.ntmps14
    go_wp2
    go_ret
    refine ⟨congrArg (fun n => Ending.returned (.int .u64 n)) ?_, by go_grown⟩
  · show bits .or .u64 (bits .and .u64 ppn 17592186044415) (IntKind.u64.wrap (IntKind.u64.wrap (bits .and .i64 asid 65535) * 17592186044416)) = _
    rw [HE.out]
    simp [satpV, bt]
  · show bits .or .u64 (bits .or .u64 (bits .and .u64 ppn 17592186044415) (IntKind.u64.wrap (IntKind.u64.wrap (bits .and .i64 asid 65535) * 17592186044416))) 9223372036854775808 = _
    rw [HE.out, ps_on]

theorem tmod16 (n : Int) : (0 ≤ n.tmod 65536 ∧ n.tmod 65536 = n % 65536) ∨ (n.tmod 65536 < 0 ∧ n.tmod 65536 + 65536 = n % 65536) := by
  by_cases h : 0 ≤ n
  · rw [Int.tmod_eq_emod_of_nonneg h]; omega
  · have h1 : (-n).tmod 65536 = -n % 65536 := Int.tmod_eq_emod_of_nonneg (by omega)
    rw [Int.neg_tmod] at h1
    omega
theorem rps_eq (on : Bool) (asid ppn Q : Int) (hp : 0 ≤ ppn ∧ ppn < 18446744073709551616) (hQ : Q = asid % 65536) :
    IntKind.u64.wrap (IntKind.u64.wrap (ppn.tmod 17592186044416 + IntKind.u64.wrap (17592186044416 * IntKind.u64.wrap Q)) + IntKind.u64.wrap (9223372036854775808 * ((bt on : Nat) : Int))) = ((satpV on asid ppn : Nat) : Int) := by
  have := bt_le on
  have hq : 0 ≤ Q ∧ Q < 65536 := by omega
  rw [Int.tmod_eq_emod_of_nonneg hp.1, IntWalk.u64_in Q (by omega), IntWalk.u64_in (17592186044416 * Q) (by omega), IntWalk.u64_in (9223372036854775808 * ((bt on : Nat) : Int)) (by omega),
    IntWalk.u64_in (ppn % 17592186044416 + 17592186044416 * Q) (by omega), IntWalk.u64_in _ (by omega)]
  unfold satpV satpB
  omega

theorem rputsatp_any (on : Bool) (asid ppn : Int) (W : World) (hp : 0 ≤ ppn ∧ ppn < 18446744073709551616) :
    Calls Try.prog 15 #[.agg #[.bool on, .int .i64 asid, .int .u64 ppn]] W fun e w' => e = .returned (.int .u64 ((satpV on asid ppn : Nat) : Int)) ∧ Below W.heap.size W w' := by
  have hs : (asid.tmod 65536 < 0 ∧ asid.tmod 65536 + 65536 = asid % 65536) ∨ (¬ asid.tmod 65536 < 0 ∧ asid.tmod 65536 = asid % 65536) := by
    have := tmod16 asid
    omega
  have hm : asid.tmod 65536 < 65536 ∧ -65536 < asid.tmod 65536 := ⟨Int.tmod_lt_of_pos _ (by decide), Int.lt_tmod_of_pos _ (by decide)⟩
  generalize hR : asid.tmod 65536 = R at hs hm
  have HP := Lib.hid hp
  clear hp
  obtain ⟨hm1, hm2⟩ := hm
  rcases hs with ⟨h1, h2⟩ | ⟨h1, h2⟩
  all_goals
    have H2 := Lib.hid h2
    clear h2
    go_enter Try.func15, Try.ntmps15
    go_wp2_with fail
    refine wp_world (fun W3 hW3 => ?_)
    have hc0 : W3.cell? ⟨W.heap.size, 0, none⟩ = some (.bool on) := by rw [hW3]; simp [go_sem]
    have hc2 : W3.cell? ⟨W.heap.size, 2, none⟩ = some (.int .u64 ppn) := by rw [hW3]; simp [go_sem]
    have hb : Below W.heap.size W W3 := by rw [hW3]; go_grown
    have hl : W.heap.size < W3.heap.size := cell_lt hc0
    clear hW3
    have HB := Lib.hid hb
    clear hb
    have hs0 := fun W' (h : Ext W3.drew W') => (h.cell (p := ⟨W.heap.size, 0, none⟩) hl).trans hc0
    have hs2 := fun W' (h : Ext W3.drew W') => (h.cell (p := ⟨W.heap.size, 2, none⟩) hl).trans hc2
    refine wp_region_plan [(0, false), (1, false), (5, false), (6, false), (10, false), (11, false), (2, true), (3, false), (4, true), (7, false), (8, false), (9, true), (12, true), (13, false), (14, false), (15, false)] (by kernel_rfl) (by kernel_rfl) (fun _ d _ _ _ h => by cases d <;> exact h) ?_
    iterate 6 (refine plan_take (v := ?_) rfl (by kernel_rfl) ?_ ?_; rotate_left; (focus (intro w' hw'; go_simp; try with_reducible rfl)); simp only [Act.put, List.setIfInBounds_toArray, List.set_cons_zero, List.set_cons_succ])
    refine plan_call rfl (by kernel_rfl) (by go_simp; exact ⟨rfl, rfl⟩) ?_
    refine (pow_any _ _ (by decide) (by decide)).mono ?_
    rintro e w' ⟨rfl, rfl⟩
    rw [show ((2 ^ (44 : Int).toNat : Nat) : Int) = 17592186044416 from rfl]
    refine ⟨_, rfl, Ext.refl _, ?_⟩
    simp only [Act.put, List.setIfInBounds_toArray, List.set_cons_zero, List.set_cons_succ]
    iterate 1 (refine plan_take (v := ?_) rfl (by kernel_rfl) ?_ ?_; rotate_left; (focus (intro w' hw'; go_simp; try with_reducible rfl)); simp only [Act.put, List.setIfInBounds_toArray, List.set_cons_zero, List.set_cons_succ])
    refine plan_call rfl (by kernel_rfl) (by go_simp; exact ⟨rfl, rfl⟩) ?_
    refine (pow_any _ _ (by decide) (by decide)).mono ?_
    rintro e w' ⟨rfl, rfl⟩
    rw [show ((2 ^ (44 : Int).toNat : Nat) : Int) = 17592186044416 from rfl]
    refine ⟨_, rfl, Ext.refl _, ?_⟩
    simp only [Act.put, List.setIfInBounds_toArray, List.set_cons_zero, List.set_cons_succ]
    iterate 2 (refine plan_take (v := ?_) rfl (by kernel_rfl) ?_ ?_; rotate_left; (focus (intro w' hw'; go_simp; try with_reducible rfl)); simp only [Act.put, List.setIfInBounds_toArray, List.set_cons_zero, List.set_cons_succ])
    refine plan_call rfl (by kernel_rfl) (by go_simp; exact ⟨rfl, rfl⟩) ?_
    refine (pow_any _ _ (by decide) (by decide)).mono ?_
    rintro e w' ⟨rfl, rfl⟩
    rw [show ((2 ^ (63 : Int).toNat : Nat) : Int) = 9223372036854775808 from rfl]
    refine ⟨_, rfl, Ext.refl _, ?_⟩
    simp only [Act.put, List.setIfInBounds_toArray, List.set_cons_zero, List.set_cons_succ]
    refine plan_call rfl (by kernel_rfl) (by go_simp; exact ⟨rfl, rfl⟩) ?_
    refine (one_any _ _).mono ?_
    rintro e w' ⟨rfl, rfl⟩
    refine ⟨_, rfl, Ext.refl _, ?_⟩
    simp only [Act.put, List.setIfInBounds_toArray, List.set_cons_zero, List.set_cons_succ]
    iterate 3 (refine plan_take (v := ?_) rfl (by kernel_rfl) ?_ ?_; rotate_left; (focus (intro w' hw'; go_simp; try with_reducible rfl)); simp only [Act.put, List.setIfInBounds_toArray, List.set_cons_zero, List.set_cons_succ])
    refine plan_end ?_
    go_wp2
    go_ret
    refine ⟨congrArg (fun n => Ending.returned (.int .u64 n)) ?_, by have hB := HB.out; repeat (first | (with_reducible exact hB) | (with_reducible refine Below.drew ?_))⟩
    exact rps_eq on asid ppn _ HP.out H2.out

theorem rgetsatp_yes (x : Nat) (b : Bool) (W : World) (hx : x < 18446744073709551616) (h : (b = false ∧ x / 1152921504606846976 = 0) ∨ (b = true ∧ x / 1152921504606846976 = 8)) :
    Calls Try.prog 13 #[.int .u64 (x : Int)] W fun e w' => e = .returned (.tuple #[.agg #[.bool b, .int .i64 ((x / 17592186044416 % 65536 : Nat) : Int), .int .u64 ((x % 17592186044416 : Nat) : Int)], .bool true]) ∧ Below W.heap.size W w' := by
  have HX := Lib.hid hx
  have f1 : fieldV x 44 16 = x / 17592186044416 % 65536 := rfl
  have f2 : fieldV x 0 44 = x % 17592186044416 := by show x / 1 % _ = _; rw [Nat.div_one]
  have hk : x / 17592186044416 % 65536 < 65536 := Nat.mod_lt _ (by decide)
  have F1 := Lib.hid f1
  have F2 := Lib.hid f2
  have f3 : fieldV x 60 4 = x / 1152921504606846976 := Nat.mod_eq_of_lt (by show x / 1152921504606846976 < 16; omega)
  clear f1 f2
  rcases h with ⟨rfl, h⟩ | ⟨rfl, h⟩
  all_goals
    rw [h] at f3
    have F3 := Lib.hid f3
    clear f3 h hx
    go_enter Try.func13, Try.ntmps13
    go_wp2_with fail
    refine (field64_any x 60 4 _ HX.out (by decide) (by decide) (by decide)).mono ?_
    rintro e w' ⟨rfl, rfl⟩
    rw [show fieldV x (60 : Int).toNat (4 : Int).toNat = _ from F3.out]
    go_wp2_with fail
    refine (field_drew x 44 16 _ HX.out (by decide) (by decide) (by decide) (by decide)).mono ?_
    rintro e w' ⟨rfl, rfl⟩
    rw [show fieldV x (44 : Int).toNat (16 : Int).toNat = _ from F1.out]
    go_wp2_with fail
    refine (field_drew x 0 44 _ HX.out (by decide) (by decide) (by decide) (by decide)).mono ?_
    rintro e w' ⟨rfl, rfl⟩
    rw [show fieldV x (0 : Int).toNat (44 : Int).toNat = _ from F2.out]
    go_wp2
  · exact bodyPost_ret (v := .tuple #[.agg #[.bool false, .int .i64 ((x / 17592186044416 % 65536 : Nat) : Int), .int .u64 ((x % 17592186044416 : Nat) : Int)], .bool true]) (by simp [results, Try.results13, go_sem]) rfl ⟨rfl, by go_grown⟩
  · exact bodyPost_ret (v := .tuple #[.agg #[.bool true, .int .i64 ((x / 17592186044416 % 65536 : Nat) : Int), .int .u64 ((x % 17592186044416 : Nat) : Int)], .bool true]) (by simp [results, Try.results13, go_sem]) rfl ⟨rfl, by go_grown⟩

theorem rgetsatp_no (x : Nat) (W : World) (hx : x < 18446744073709551616) (h0 : x / 1152921504606846976 ≠ 0) (h8 : x / 1152921504606846976 ≠ 8) :
    Calls Try.prog 13 #[.int .u64 (x : Int)] W fun e w' => e = .returned (.tuple #[.agg #[.bool false, .int .i64 0, .int .u64 0], .bool false]) ∧ Below W.heap.size W w' := by
  have HX := Lib.hid hx
  have f3 : fieldV x 60 4 = x / 1152921504606846976 := Nat.mod_eq_of_lt (by show x / 1152921504606846976 < 16; omega)
  have F3 := Lib.hid f3
  generalize x / 1152921504606846976 = M at *
  have n0 : ((M : Int) != 0) = true := by rw [bne_iff_ne]; omega
  have n8 : ((M : Int) != 8) = true := by rw [bne_iff_ne]; omega
  clear h0 h8 f3
  go_enter Try.func13, Try.ntmps13
  go_wp2_with fail
  refine (field64_any x 60 4 _ HX.out (by decide) (by decide) (by decide)).mono ?_
  rintro e w' ⟨rfl, rfl⟩
  rw [show fieldV x (60 : Int).toNat (4 : Int).toNat = _ from F3.out]
  go_wp2
  exact bodyPost_ret (v := .tuple #[.agg #[.bool false, .int .i64 0, .int .u64 0], .bool false]) (by simp [results, Try.results13, go_sem]) rfl ⟨rfl, by go_grown⟩
end Go.Proofs.Ytikgdnlnhmikgaa
