/- Merged texts: PermH, WalkA, WalkW, WalkB, WalkM, WalkP. -/
import Derived.Test.YtecalibnnfcaeaaMm4
import Derived.WalkMore
import Derived.ScopeJumps
/- Contracts: causes; the laws' own first function. -/
namespace Go.Proofs.Ytecalibnnfcaeaa
open Go.RowKit

def causeV (a l0 l1 l2 : Int) : Int := if a == 0 then l0 else if a == 1 then l1 else if a == 2 then l2 else -1
theorem known_any (a : Int) (b : Bool) (W : World) (h : b = decide (0 ≤ a ∧ a ≤ 2)) :
    Calls Try.prog 82 #[.int .i64 a] W fun e w' => e = .returned (.bool b) ∧ W = w' := by
  rcases (show (0 ≤ a ∧ a ≤ 2) ∨ a < 0 ∨ 2 < a by omega) with h1 | h1 | h1
  · have e : b = true := by rw [h]; simpa using h1
    subst e
    obtain ⟨h1, h2⟩ := h1
    clear h
    go_enter Try.func82, Try.ntmps82
    go_wp2
    go_ret
    exact ⟨rfl, rfl⟩
  · have e : b = false := by rw [h]; simp; omega
    subst e
    clear h
    have h2 : decide (0 ≤ a) = false := by simp; omega
    go_enter Try.func82, Try.ntmps82
    go_wp2
    go_ret
    exact ⟨rfl, rfl⟩
  · have e : b = false := by rw [h]; simp; omega
    subst e
    clear h
    have h2 : decide (a ≤ 2) = false := by simp; omega
    have h3 : 0 ≤ a := by omega
    go_enter Try.func82, Try.ntmps82
    go_wp2
    go_ret
    exact ⟨rfl, rfl⟩
theorem of_any (a l0 l1 l2 : Int) (W : World) :
    Calls Try.prog 72 #[.int .i64 a, .agg #[.int .i64 l0, .int .i64 l1, .int .i64 l2]] W fun e w' => e = .returned (.int .i64 (causeV a l0 l1 l2)) ∧ W.alloc (.cells #[.int .i64 l0, .int .i64 l1, .int .i64 l2] 143) = w' := by
  rcases (show a = 0 ∨ a = 1 ∨ a = 2 ∨ (a < 0 ∨ 2 < a) by omega) with rfl | rfl | rfl | h
  iterate 3
    go_enter Try.func72, Try.ntmps72
    go_wp2_with (go_at_call 82; refine (known_any _ true _ (by decide)).mono ?_; rintro e w' ⟨rfl, rfl⟩)
    go_ret
    exact ⟨rfl, rfl⟩
  · have e : causeV a l0 l1 l2 = -1 := by
      unfold causeV
      rw [if_neg (by simp; omega), if_neg (by simp; omega), if_neg (by simp; omega)]
    rw [e]
    clear e
    have H := Lib.hid h
    clear h
    go_enter Try.func72, Try.ntmps72
    go_wp2_with (go_at_call 82; refine (known_any _ false _ (by have h := H.out; simp; omega)).mono ?_; rintro e w' ⟨rfl, rfl⟩)
    go_ret
    exact ⟨rfl, rfl⟩
theorem page_any (a : Int) (W : World) :
    Calls Try.prog 56 #[.int .i64 a] W fun e w' => e = .returned (.int .i64 (causeV a 12 13 15)) ∧ W.alloc (.cells #[.int .i64 12, .int .i64 13, .int .i64 15] 143) = w' := by
  go_enter Try.func56, Try.ntmps56
  go_wp2_with (go_at_call 72; refine (of_any _ _ _ _ _).mono ?_; rintro e w' ⟨rfl, rfl⟩)
  go_ret
  exact ⟨rfl, rfl⟩
theorem bound_any (a : Int) (W : World) :
    Calls Try.prog 59 #[.int .i64 a] W fun e w' => e = .returned (.int .i64 (causeV a 1 5 7)) ∧ W.alloc (.cells #[.int .i64 1, .int .i64 5, .int .i64 7] 143) = w' := by
  go_enter Try.func59, Try.ntmps59
  go_wp2_with (go_at_call 72; refine (of_any _ _ _ _ _).mono ?_; rintro e w' ⟨rfl, rfl⟩)
  go_ret
  exact ⟨rfl, rfl⟩
theorem align_any (a : Int) (W : World) :
    Calls Try.prog 53 #[.int .i64 a] W fun e w' => e = .returned (.int .i64 (causeV a 0 4 6)) ∧ W.alloc (.cells #[.int .i64 0, .int .i64 4, .int .i64 6] 143) = w' := by
  go_enter Try.func53, Try.ntmps53
  go_wp2_with (go_at_call 72; refine (of_any _ _ _ _ _).mono ?_; rintro e w' ⟨rfl, rfl⟩)
  go_ret
  exact ⟨rfl, rfl⟩
theorem rcause_any (a l0 l1 l2 : Int) (g c : Nat) (W : World) (h0 : W.cell? ⟨g, 0, none⟩ = some (.int .i64 l0)) (h1 : W.cell? ⟨g, 1, none⟩ = some (.int .i64 l1)) (h2 : W.cell? ⟨g, 2, none⟩ = some (.int .i64 l2)) :
    Calls Try.prog 45 #[.int .i64 a, .slice (some ⟨g, 0, none⟩) 3 c] W fun e w' => e = .returned (.int .i64 (causeV a l0 l1 l2)) ∧ W = w' := by
  rcases (show a = 0 ∨ a = 1 ∨ a = 2 ∨ a < 0 ∨ 2 < a by omega) with rfl | rfl | rfl | h | h
  · go_enter Try.func45, Try.ntmps45
    go_wp2
    all_goals (go_ret; exact ⟨rfl, rfl⟩)
  · go_enter Try.func45, Try.ntmps45
    go_wp2
    all_goals (go_ret; exact ⟨rfl, rfl⟩)
  · go_enter Try.func45, Try.ntmps45
    go_wp2
    all_goals (go_ret; exact ⟨rfl, rfl⟩)
  all_goals
    have e : causeV a l0 l1 l2 = -1 := by
      unfold causeV
      rw [if_neg (by simp; omega), if_neg (by simp; omega), if_neg (by simp; omega)]
    rw [e]
    clear e
  · go_enter Try.func45, Try.ntmps45
    go_wp2
    all_goals (go_ret; exact ⟨rfl, rfl⟩)
  · have h3 : decide (a < 0) = false := by simp; omega
    go_enter Try.func45, Try.ntmps45
    go_wp2
    all_goals (go_ret; exact ⟨rfl, rfl⟩)

theorem pte_cells {w : World} {g : Nat} {t : TypeId} {c0 c1 c2 c3 c4 c5 c6 c7 c8 c9 : Value} (h : Blk w g t #[c0, c1, c2, c3, c4, c5, c6, c7, c8, c9]) :
    w.cell? ⟨g, 0, none⟩ = some c0 ∧ w.cell? ⟨g, 1, none⟩ = some c1 ∧ w.cell? ⟨g, 2, none⟩ = some c2 ∧ w.cell? ⟨g, 3, none⟩ = some c3 ∧ w.cell? ⟨g, 4, none⟩ = some c4 ∧ w.cell? ⟨g, 5, none⟩ = some c5 ∧ w.cell? ⟨g, 6, none⟩ = some c6 ∧ w.cell? ⟨g, 7, none⟩ = some c7 ∧ w.cell? ⟨g, 8, none⟩ = some c8 ∧ w.cell? ⟨g, 9, none⟩ = some c9 :=
  ⟨h.cell 0, h.cell 1, h.cell 2, h.cell 3, h.cell 4, h.cell 5, h.cell 6, h.cell 7, h.cell 8, h.cell 9⟩
theorem mode_cells {w : World} {g : Nat} {t : TypeId} {c0 c1 c2 : Value} (h : Blk w g t #[c0, c1, c2]) :
    w.cell? ⟨g, 0, none⟩ = some c0 ∧ w.cell? ⟨g, 1, none⟩ = some c1 ∧ w.cell? ⟨g, 2, none⟩ = some c2 := ⟨h.cell 0, h.cell 1, h.cell 2⟩

theorem flags_first_size : (⟨#[118, 114, 45, 120, 117, 45, 97, 45]⟩ : ByteArray).size = 8 := rfl
end Go.Proofs.Ytecalibnnfcaeaa

/- even, leads. -/
namespace Go.Proofs.Ytecalibnnfcaeaa
open Go.RowKit

def evenB (ppn : Nat) (l : Nat) : Bool := ppn % 2 ^ (9 * l) == 0
theorem even_any (ppn l : Nat) (W : World) (hp : ppn < 18446744073709551616) (hl : l ≤ 2) :
    Calls Try.prog 89 #[.int .u64 (ppn : Int), .int .i64 (l : Int)] W fun e w' => e = .returned (.bool (evenB ppn l)) ∧ W = w' := by
  have h0 := aligned_eq ppn 0 0 (by decide) rfl hp
  have h1 := aligned_eq ppn 9 511 (by decide) rfl hp
  have h2 := aligned_eq ppn 18 262143 (by decide) rfl hp
  have H0 := Lib.hid h0
  have H1 := Lib.hid h1
  have H2 := Lib.hid h2
  clear h0 h1 h2
  rcases (show l = 0 ∨ l = 1 ∨ l = 2 by omega) with rfl | rfl | rfl
  · go_enter Try.func89, Try.ntmps89
    go_wp2_with fail
    go_ret
    exact ⟨by first | (rw [H0.out]; rfl) | (simp [evenB]), rfl⟩
  · go_enter Try.func89, Try.ntmps89
    go_wp2_with fail
    go_ret
    exact ⟨by rw [H1.out]; rfl, rfl⟩
  · go_enter Try.func89, Try.ntmps89
    go_wp2_with fail
    go_ret
    exact ⟨by rw [H2.out]; rfl, rfl⟩
theorem leads_any (v r w x u g a d : Bool) (rsw ppn : Int) (l : Nat) (W : World) (hl : l ≤ 2) :
    Calls Try.prog 90 #[.agg #[.bool v, .bool r, .bool w, .bool x, .bool u, .bool g, .bool a, .bool d, .int .i64 rsw, .int .u64 ppn], .int .i64 (l : Int)] W fun e w' => e = .returned (.bool (decide (0 < l) && !u && !a && !d)) ∧ Below W.heap.size W w' := by
  rcases (show l = 0 ∨ l = 1 ∨ l = 2 by omega) with rfl | rfl | rfl <;> cases u <;> cases a <;> cases d
  all_goals
    go_enter Try.func90, Try.ntmps90
    go_wp2_with fail
    go_ret
    exact ⟨rfl, (Below.refl _ _).alloc (Nat.le_refl _) _⟩
end Go.Proofs.Ytecalibnnfcaeaa

/- Words of a memory: what is laid is read again, and all else stays. -/
namespace Go.Proofs.Ytecalibnnfcaeaa
open Go.RowKit

theorem lw_append : ∀ (a b : List Nat), leNat (a ++ b) = leNat a + 256 ^ a.length * leNat b
  | [], b => by simp [leNat]
  | x :: r, b => by
    simp only [List.cons_append, leNat, lw_append r b, List.length_cons, Nat.pow_succ, Nat.mul_add]
    rw [← Nat.mul_assoc, Nat.mul_comm (256 ^ r.length) 256, Nat.add_assoc]
theorem lw_range (v : Nat) : ∀ n, leNat ((List.range n).map (byteOf v)) = v % 256 ^ n
  | 0 => by simp [leNat, Nat.mod_one]
  | n + 1 => by
    rw [List.range_succ, List.map_append, lw_append, lw_range v n]
    simp only [List.length_map, List.length_range, List.map_cons, List.map_nil, leNat, byteOf]
    rw [Nat.mul_zero, Nat.add_zero, Nat.pow_succ, Nat.mod_mul]
theorem chk8 {n a : Nat} (h : chkE n a 8 = 0) : a % 8 = 0 ∧ a < 4096 * n := by
  obtain ⟨h1, h2⟩ := chk_ok h
  refine ⟨by simpa [alignedB, sizeB] using h1, by omega⟩
theorem chk8_of {n a : Nat} (h1 : a % 8 = 0) (h2 : a < 4096 * n) : chkE n a 8 = 0 := by
  have h3 : alignedB a 8 = true := by simp [alignedB, sizeB, h1]
  unfold chkE
  rw [if_neg (by decide), h3, if_neg (by decide), if_neg (by omega)]
/-- All pages are whole. -/
def Full (S : Nat → List Nat) : Prop := ∀ k, (S k).length = 4096
theorem Full.empty : Full emptyS := fun _ => zero_len
theorem Full.store {S : Nat → List Nat} (h : Full S) (n a : Nat) (s : Int) (v : Nat) : Full (stR n S a s v) := fun k => by
  unfold stR
  split
  · unfold stS updS
    split
    · exact putL_length _ _ _ _
    · exact h k
  · exact h k
theorem ld_same {n a v : Nat} {S : Nat → List Nat} (ha : chkE n a 8 = 0) (hv : v < 18446744073709551616) : ldR n (stR n S a 8 v) a 8 = v := by
  obtain ⟨h1, h2⟩ := chk8 ha
  unfold ldR stR
  rw [if_pos ha, if_pos ha]
  unfold ldV stS updS getV
  rw [if_pos rfl]
  have e : ((putL (S (a / 4096)) (a % 4096) v (8 : Int).toNat).drop ((a % 4096 : Nat) : Int).toNat).take (8 : Int).toNat = (List.range 8).map (byteOf v) := by
    rw [Int.toNat_natCast, show (8 : Int).toNat = 8 from rfl]
    apply list_ext_getD
    · rw [List.length_take, List.length_drop, putL_length, List.length_map, List.length_range]; omega
    · intro i hi
      rw [List.length_take, List.length_drop, putL_length] at hi
      rw [List.getD_eq_getElem?_getD, List.getElem?_take, if_pos (by omega), ← List.getD_eq_getElem?_getD, getD_drop, putL_get _ _ _ _ _ (by omega), if_pos (by omega), List.getD_eq_getElem?_getD, List.getElem?_map, List.getElem?_range (by omega)]
      simp
  rw [e, lw_range]
  exact Nat.mod_eq_of_lt hv
theorem ld_other {n a b v : Nat} {S : Nat → List Nat} (hf : Full S) (hb : b % 8 = 0) (hne : a ≠ b) : ldR n (stR n S a 8 v) b 8 = ldR n S b 8 := by
  unfold ldR
  split
  · rename_i hbk
    unfold stR
    split
    · rename_i ha
      obtain ⟨h1, h2⟩ := chk8 ha
      unfold ldV stS updS
      split
      · rename_i h3
        have e : ((putL (S (a / 4096)) (a % 4096) v (8 : Int).toNat).drop ((b % 4096 : Nat) : Int).toNat).take (8 : Int).toNat = ((S (b / 4096)).drop ((b % 4096 : Nat) : Int).toNat).take (8 : Int).toNat := by
          rw [Int.toNat_natCast, show (8 : Int).toNat = 8 from rfl, h3]
          apply list_ext_getD
          · rw [List.length_take, List.length_drop, putL_length, List.length_take, List.length_drop, hf]
          · intro i hi
            rw [List.length_take, List.length_drop, putL_length] at hi
            rw [List.getD_eq_getElem?_getD, List.getElem?_take, if_pos (by omega), ← List.getD_eq_getElem?_getD, getD_drop, putL_get _ _ _ _ _ (by omega), if_neg (by omega), List.getD_eq_getElem?_getD (l := List.take _ _), List.getElem?_take, if_pos (by omega), ← List.getD_eq_getElem?_getD, getD_drop]
        unfold getV
        rw [e]
      · rfl
    · rfl
  · rfl
theorem ld_empty (n a : Nat) : ldR n emptyS a 8 = 0 := by
  unfold ldR
  split
  · unfold ldV getV
    apply leNat_zero
    intro i
    rw [List.getD_eq_getElem?_getD, List.getElem?_take]
    split
    · rw [← List.getD_eq_getElem?_getD, getD_drop]
      exact zeroL_get _
    · rfl
  · rfl
end Go.Proofs.Ytecalibnnfcaeaa

/- entry of a table. -/
namespace Go.Proofs.Ytecalibnnfcaeaa
open Go.RowKit

def ppnX (x : Nat) : Nat := x / 1024 % 17592186044416
def goodX (x : Nat) : Bool := x / 18014398509481984 == 0 && (bitB x 0 && (bitB x 1 || !bitB x 2))
def leafX (x : Nat) : Bool := bitB x 1 || bitB x 3
def leadX (x l : Nat) : Bool := decide (0 < l) && !bitB x 4 && !bitB x 6 && !bitB x 7
def pteZ : Value := .agg #[.bool false, .bool false, .bool false, .bool false, .bool false, .bool false, .bool false, .bool false, .int .i64 0, .int .u64 0]
def entE (n : Nat) (S : Nat → List Nat) (a : Nat) : Int := if chkE n a 8 = 0 then (if goodX (ldR n S a 8) then 0 else 51) else 61
def entV (n : Nat) (S : Nat → List Nat) (a : Nat) : Value := if entE n S a = 0 then entryV (ldR n S a 8) else pteZ
theorem ppnX_lt (x : Nat) : ppnX x < 17592186044416 := Nat.mod_lt _ (by decide)
theorem Mem.pg_lt {w : World} {g n : Nat} {F : Nat → Prop} {S : Nat → List Nat} (h : Mem w g F n S) (k i : Nat) : (S k).getD i 0 < 256 := by
  obtain ⟨mb, loc, K, h, _⟩ := h
  by_cases hk : k ∈ K
  · exact (h.page k hk).2.1 i
  · rw [h.zero k hk, zeroL_get]; decide
theorem Mem.ld_lt {w : World} {g n : Nat} {F : Nat → Prop} {S : Nat → List Nat} (h : Mem w g F n S) (a : Nat) : ldR n S a 8 < 18446744073709551616 := by
  unfold ldR
  split
  · exact leNat_take_lt _ 8 (getD_drop_lt _ _ (h.pg_lt _))
  · decide
theorem pte_row : rowT Try.prog 95 10 = true := by kernel_rfl
theorem pte_one (x : Nat) : (#[.bool (bitB x 0), .bool (bitB x 1), .bool (bitB x 2), .bool (bitB x 3), .bool (bitB x 4), .bool (bitB x 5), .bool (bitB x 6), .bool (bitB x 7), .int .i64 ((x : Int) / 256 % 4), .int .u64 ((x : Int) / 1024 % 17592186044416)] : Array Value).all (·.oneCell') = true := by simp [Value.oneCell']
theorem zer_one : (#[.bool false, .bool false, .bool false, .bool false, .bool false, .bool false, .bool false, .bool false, .int .i64 0, .int .u64 0] : Array Value).all (·.oneCell') = true := by simp [Value.oneCell']
theorem leaf_row : rowT Try.prog 97 12 = true := by kernel_rfl
set_option maxHeartbeats 1000000 in
theorem entry_any (g n a : Nat) (F : Nat → Prop) (S : Nat → List Nat) (W : World) (h : Mem W g F n S) (ha : a < 18446744073709551616) :
    Calls Try.prog 88 #[.pointer (some ⟨g, 0, none⟩), .int .u64 (a : Int)] W fun e w' => e = .returned (.tuple #[entV n S a, .int .i64 (entE n S a)]) ∧ Below W.heap.size W w' := by
  have HA := Lib.hid ha
  have hX := h.ld_lt a
  have HE : Hid (entE n S a = if chkE n a 8 = 0 then (if goodX (ldR n S a 8) then 0 else 51) else 61) := Lib.hid rfl
  have HV : Hid (entV n S a = if entE n S a = 0 then entryV (ldR n S a 8) else pteZ) := Lib.hid rfl
  have hw : ∃ W1, W1 = W.alloc (.cells #[.bool false, .bool false, .bool false, .bool false, .bool false, .bool false, .bool false, .bool false, .int .i64 0, .int .u64 0] 95) ∧ Blk W1 W.heap.size 95 #[.bool false, .bool false, .bool false, .bool false, .bool false, .bool false, .bool false, .bool false, .int .i64 0, .int .u64 0] ∧ Below W.heap.size W W1 ∧ Mem W1 g F n S :=
    ⟨_, rfl, Blkf.new_at _ _ _ _ rfl, (Below.refl _ _).alloc (Nat.le_refl _) _, h.below ((Below.refl _ _).alloc (Nat.le_refl _) _)⟩
  obtain ⟨W1, hW1, hz, hb1, hm⟩ := hw
  have HZ := Lib.hid hz
  have HB1 := Lib.hid hb1
  have HM := Lib.hid hm
  clear h ha hz hb1 hm
  generalize entV n S a = V at *
  generalize entE n S a = E at *
  go_enter Try.func88, Try.ntmps88
  go_wp2_with fail
  rw [← hW1]
  clear hW1
  refine (Load_any g n a 8 F S _ HM.out HA.out).mono ?_
  rintro e w ⟨rfl, rfl⟩
  have HX : Hid (ldR n S a 8 < 18446744073709551616) := Lib.hid hX
  clear hX
  generalize ldR n S a 8 = x at *
  generalize chkE n a 8 = c at *
  by_cases hc : c = 0
  · subst hc
    rw [if_pos rfl] at HE
    go_wp2_with fail
    refine (get_any x _ HX.out).mono ?_
    rintro e w1 ⟨rfl, hb⟩
    have HG := Lib.hid (HB1.out.trans (hb.mono HB1.out.size))
    have hz1 := HZ.out.below hb HZ.out.lt
    have HZ1 := Lib.hid (hz1.alloc (.cells #[.bool (bitB x 0), .bool (bitB x 1), .bool (bitB x 2), .bool (bitB x 3), .bool (bitB x 4), .bool (bitB x 5), .bool (bitB x 6), .bool (bitB x 7), .int .i64 ((x : Int) / 256 % 4), .int .u64 ((x : Int) / 1024 % 17592186044416)] 95))
    have HB2 := Lib.hid (HG.out.alloc HG.out.size (.cells #[.bool (bitB x 0), .bool (bitB x 1), .bool (bitB x 2), .bool (bitB x 3), .bool (bitB x 4), .bool (bitB x 5), .bool (bitB x 6), .bool (bitB x 7), .int .i64 ((x : Int) / 256 % 4), .int .u64 ((x : Int) / 1024 % 17592186044416)] 95))
    have HP2 := Lib.hid (Blkf.new_at w1 95 (0, 0) #[.bool (bitB x 0), .bool (bitB x 1), .bool (bitB x 2), .bool (bitB x 3), .bool (bitB x 4), .bool (bitB x 5), .bool (bitB x 6), .bool (bitB x 7), .int .i64 ((x : Int) / 256 % 4), .int .u64 ((x : Int) / 1024 % 17592186044416)] rfl)
    clear hb hz1
    have hgx : goodX x = ((x / 18014398509481984 == 0) && (bitB x 0 && (bitB x 1 || !bitB x 2))) := rfl
    rcases Bool.eq_false_or_eq_true (x / 18014398509481984 == 0) with h54 | h54
    · rw [h54] at hgx ⊢
      have HGX := Lib.hid hgx
      clear hgx h54
      go_wp2_with (first | ((with_reducible refine wl_store_new 95 (.tmp 8) (.tmp 22) rfl ?_ w1 (World.heap w1).size 95 #[.bool false, .bool false, .bool false, .bool false, .bool false, .bool false, .bool false, .bool false, .int .i64 0, .int .u64 0] #[.bool (bitB x 0), .bool (bitB x 1), .bool (bitB x 2), .bool (bitB x 3), .bool (bitB x 4), .bool (bitB x 5), .bool (bitB x 6), .bool (bitB x 7), .int .i64 ((x : Int) / 256 % 4), .int .u64 ((x : Int) / 1024 % 17592186044416)] ?_ ?_ ?_ ?_ ?_ ?_ ?_ ?_); exact rfl; exact rfl; exact rfl; exact rfl; exact rfl; exact rfl; exact pte_row; exact pte_one x))
      generalize w1.alloc (.cells #[.bool (bitB x 0), .bool (bitB x 1), .bool (bitB x 2), .bool (bitB x 3), .bool (bitB x 4), .bool (bitB x 5), .bool (bitB x 6), .bool (bitB x 7), .int .i64 ((x : Int) / 256 % 4), .int .u64 ((x : Int) / 1024 % 17592186044416)] 95) = w2 at *
      go_wp2_with (first | ((with_reducible refine wl_load 95 (.tmp 8) rfl ?_ w1.heap.size 0 #[.bool (bitB x 0), .bool (bitB x 1), .bool (bitB x 2), .bool (bitB x 3), .bool (bitB x 4), .bool (bitB x 5), .bool (bitB x 6), .bool (bitB x 7), .int .i64 ((x : Int) / 256 % 4), .int .u64 ((x : Int) / 1024 % 17592186044416)] ?_ HP2.out.range ?_ ?_); exact rfl; exact rfl; exact pte_row))
      refine (right_any _ _ _ _ _ _ _ _ _ _ _).mono ?_
      rintro e w3 ⟨rfl, hb3⟩
      have hgx := HGX.out
      rw [Bool.true_and] at hgx
      rw [← hgx]
      clear hgx
      have HZ3 := Lib.hid (HZ1.out.below hb3 HZ1.out.lt)
      have HB3 := Lib.hid (HB2.out.trans (hb3.mono HB2.out.size))
      have HP3 := Lib.hid (HP2.out.below hb3 HP2.out.lt)
      clear hb3
      rcases Bool.eq_false_or_eq_true (goodX x) with hg1 | hg1
      · rw [hg1] at HE ⊢
        go_wp2_with (first | ((with_reducible refine wl_load 95 (.tmp 8) rfl ?_ w1.heap.size 0 #[.bool (bitB x 0), .bool (bitB x 1), .bool (bitB x 2), .bool (bitB x 3), .bool (bitB x 4), .bool (bitB x 5), .bool (bitB x 6), .bool (bitB x 7), .int .i64 ((x : Int) / 256 % 4), .int .u64 ((x : Int) / 1024 % 17592186044416)] ?_ HP3.out.range ?_ ?_); exact rfl; exact rfl; exact pte_row) | ((with_reducible refine wl_store 95 (.tmp 4) (.tmp 32) rfl ?_ W.heap.size 95 #[.bool false, .bool false, .bool false, .bool false, .bool false, .bool false, .bool false, .bool false, .int .i64 0, .int .u64 0] #[.bool (bitB x 0), .bool (bitB x 1), .bool (bitB x 2), .bool (bitB x 3), .bool (bitB x 4), .bool (bitB x 5), .bool (bitB x 6), .bool (bitB x 7), .int .i64 ((x : Int) / 256 % 4), .int .u64 ((x : Int) / 1024 % 17592186044416)] ?_ ?_ HZ3.out ?_ ?_ ?_ ?_); exact rfl; exact rfl; exact rfl; exact rfl; exact pte_row; exact pte_one x))
        refine bodyPost_ret (res_cell_slot (cs := #[.bool (bitB x 0), .bool (bitB x 1), .bool (bitB x 2), .bool (bitB x 3), .bool (bitB x 4), .bool (bitB x 5), .bool (bitB x 6), .bool (bitB x 7), .int .i64 ((x : Int) / 256 % 4), .int .u64 ((x : Int) / 1024 % 17592186044416)]) (v := .int .i64 0) rfl _ _ W.heap.size 95 rfl rfl (HZ3.out.setRow _) pte_row) rfl ⟨?_, below_setRow HB3.out (Nat.le_refl _) _⟩
        rw [HV.out, HE.out]
        rfl
      · rw [hg1] at HE ⊢
        go_wp2_with (first | ((with_reducible refine wl_store 95 (.tmp 4) (.tmp 31) rfl ?_ W.heap.size 95 #[.bool false, .bool false, .bool false, .bool false, .bool false, .bool false, .bool false, .bool false, .int .i64 0, .int .u64 0] #[.bool false, .bool false, .bool false, .bool false, .bool false, .bool false, .bool false, .bool false, .int .i64 0, .int .u64 0] ?_ ?_ HZ3.out ?_ ?_ ?_ ?_); exact rfl; exact rfl; exact rfl; exact rfl; exact pte_row; exact zer_one))
        refine bodyPost_ret (res_cell_slot (cs := #[.bool false, .bool false, .bool false, .bool false, .bool false, .bool false, .bool false, .bool false, .int .i64 0, .int .u64 0]) (v := .int .i64 51) rfl _ _ W.heap.size 95 rfl rfl (HZ3.out.setRow _) pte_row) rfl ⟨?_, below_setRow HB3.out (Nat.le_refl _) _⟩
        rw [HV.out, HE.out]
        rfl
    · rw [h54] at hgx ⊢
      rw [Bool.false_and] at hgx
      rw [hgx] at HE
      clear hgx h54
      go_wp2_with (first | ((with_reducible refine wl_store 95 (.tmp 4) (.tmp 31) rfl ?_ W.heap.size 95 #[.bool false, .bool false, .bool false, .bool false, .bool false, .bool false, .bool false, .bool false, .int .i64 0, .int .u64 0] #[.bool false, .bool false, .bool false, .bool false, .bool false, .bool false, .bool false, .bool false, .int .i64 0, .int .u64 0] ?_ ?_ HZ1.out ?_ ?_ ?_ ?_); exact rfl; exact rfl; exact rfl; exact rfl; exact pte_row; exact zer_one) | ((with_reducible refine wl_store_new 95 (.tmp 8) (.tmp 22) rfl ?_ w1 (World.heap w1).size 95 #[.bool false, .bool false, .bool false, .bool false, .bool false, .bool false, .bool false, .bool false, .int .i64 0, .int .u64 0] #[.bool (bitB x 0), .bool (bitB x 1), .bool (bitB x 2), .bool (bitB x 3), .bool (bitB x 4), .bool (bitB x 5), .bool (bitB x 6), .bool (bitB x 7), .int .i64 ((x : Int) / 256 % 4), .int .u64 ((x : Int) / 1024 % 17592186044416)] ?_ ?_ ?_ ?_ ?_ ?_ ?_ ?_); exact rfl; exact rfl; exact rfl; exact rfl; exact rfl; exact rfl; exact pte_row; exact pte_one x))
      generalize w1.alloc (.cells #[.bool (bitB x 0), .bool (bitB x 1), .bool (bitB x 2), .bool (bitB x 3), .bool (bitB x 4), .bool (bitB x 5), .bool (bitB x 6), .bool (bitB x 7), .int .i64 ((x : Int) / 256 % 4), .int .u64 ((x : Int) / 1024 % 17592186044416)] 95) = w2 at *
      refine bodyPost_ret (res_cell_slot (cs := #[.bool false, .bool false, .bool false, .bool false, .bool false, .bool false, .bool false, .bool false, .int .i64 0, .int .u64 0]) (v := .int .i64 51) rfl _ _ W.heap.size 95 rfl rfl (HZ1.out.setRow _) pte_row) rfl ⟨?_, below_setRow HB2.out (Nat.le_refl _) _⟩
      rw [HV.out, HE.out]
      rfl
  · rw [if_neg hc] at HE
    have hc2 : (c != 0) = true := by simpa using hc
    go_wp2_with (first | ((with_reducible refine wl_store 95 (.tmp 4) (.tmp 18) rfl ?_ W.heap.size 95 #[.bool false, .bool false, .bool false, .bool false, .bool false, .bool false, .bool false, .bool false, .int .i64 0, .int .u64 0] #[.bool false, .bool false, .bool false, .bool false, .bool false, .bool false, .bool false, .bool false, .int .i64 0, .int .u64 0] ?_ ?_ HZ.out ?_ ?_ ?_ ?_); exact rfl; exact rfl; exact rfl; exact rfl; exact pte_row; exact zer_one))
    refine bodyPost_ret (res_cell_slot (cs := #[.bool false, .bool false, .bool false, .bool false, .bool false, .bool false, .bool false, .bool false, .int .i64 0, .int .u64 0]) (v := .int .i64 61) rfl _ _ W.heap.size 95 rfl rfl (HZ.out.setRow _) pte_row) rfl ⟨?_, below_setRow HB1.out (Nat.le_refl _) _⟩
    rw [HV.out, HE.out]
    rfl
end Go.Proofs.Ytecalibnnfcaeaa

/- What the walk finds: the model, and its plain laws. -/
namespace Go.Proofs.Ytecalibnnfcaeaa
open Go.RowKit

inductive Fd where
  | err (e : Int)
  | leaf (x l a : Nat)
def atX (va t l : Nat) : Nat := (t * 4096 + 8 * indexV va (l : Int)) % 18446744073709551616
def fdAt (n : Nat) (S : Nat → List Nat) (va l t : Nat) (k : Fd) : Fd :=
  if chkE n (atX va t l) 8 = 0 then
    if goodX (ldR n S (atX va t l) 8) then
      if leafX (ldR n S (atX va t l) 8) then (if evenB (ppnX (ldR n S (atX va t l) 8)) l then .leaf (ldR n S (atX va t l) 8) l (atX va t l) else .err 51)
      else if leadX (ldR n S (atX va t l) 8) l then k else .err 51
    else .err 51
  else .err 61
def findF (n : Nat) (S : Nat → List Nat) (va : Nat) : Nat → Nat → Fd
  | 0, t => fdAt n S va 0 t (.err 51)
  | l + 1, t => fdAt n S va (l + 1) t (findF n S va l (ppnX (ldR n S (atX va t (l + 1)) 8)))
theorem atX_lt (va t l : Nat) : atX va t l < 18446744073709551616 := Nat.mod_lt _ (by decide)
theorem fdAt_leaf {n : Nat} {S : Nat → List Nat} {va L t x l a : Nat} {k : Fd} (h : fdAt n S va L t k = .leaf x l a) :
    (l = L ∧ a = atX va t L ∧ chkE n a 8 = 0 ∧ x = ldR n S a 8) ∨ k = .leaf x l a := by
  unfold fdAt at h
  split at h
  · rename_i h1
    split at h
    · split at h
      · split at h
        · injection h with h2 h3 h4
          subst h3; subst h4
          exact .inl ⟨rfl, rfl, h1, h2.symm⟩
        · cases h
      · split at h
        · exact .inr h
        · cases h
    · cases h
  · cases h
theorem fdAt_congr {n : Nat} {S : Nat → List Nat} {va b L t : Nat} {k : Fd} (h : atX va t L = atX b t L) : fdAt n S va L t k = fdAt n S b L t k := by
  unfold fdAt
  rw [h]
theorem chk_at {n a : Nat} (h : chkE n a 8 = 0) : a % 8 = 0 ∧ a < 4096 * n := by
  unfold chkE at h
  split at h
  · cases h
  · split at h
    · cases h
    · rename_i h1
      split at h
      · cases h
      · rename_i h2
        refine ⟨?_, by omega⟩
        have : alignedB a 8 = true := by simpa using h1
        simpa [alignedB, sizeB] using this
theorem find_leaf {n : Nat} {S : Nat → List Nat} {va x l a : Nat} : ∀ {L t : Nat}, findF n S va L t = .leaf x l a → l ≤ L ∧ a % 8 = 0 ∧ a < 4096 * n ∧ x = ldR n S a 8
  | 0, t, h => by
    rcases fdAt_leaf h with ⟨h1, _, h3, h4⟩ | h1
    · exact ⟨by omega, (chk_at h3).1, (chk_at h3).2, h4⟩
    · cases h1
  | L + 1, t, h => by
    rcases fdAt_leaf h with ⟨h1, _, h3, h4⟩ | h1
    · exact ⟨by omega, (chk_at h3).1, (chk_at h3).2, h4⟩
    · have := find_leaf h1
      exact ⟨by omega, this.2⟩
theorem find_page {n : Nat} {S : Nat → List Nat} {va b x l a : Nat} (hi : ∀ k : Nat, l ≤ k → indexV va (k : Int) = indexV b (k : Int)) : ∀ {L t : Nat}, findF n S va L t = .leaf x l a → findF n S b L t = .leaf x l a
  | 0, t, h => by
    have h1 := (find_leaf h).1
    unfold findF at h ⊢
    rw [← fdAt_congr (by unfold atX; rw [hi 0 h1])]
    exact h
  | L + 1, t, h => by
    have h1 := (find_leaf h).1
    have e : atX va t (L + 1) = atX b t (L + 1) := by unfold atX; rw [hi (L + 1) h1]
    unfold findF at h ⊢
    rw [← fdAt_congr e, ← e]
    have hk := @find_page (t := ppnX (ldR n S (atX va t (L + 1)) 8)) n S va b x l a hi L
    unfold fdAt at h ⊢
    split at h
    · rename_i h2
      rw [if_pos h2]
      split at h
      · rename_i h3
        rw [if_pos h3]
        split at h
        · rename_i h4
          rw [if_pos h4]
          exact h
        · rename_i h4
          rw [if_neg h4]
          split at h
          · rename_i h5
            rw [if_pos h5]
            exact hk h
          · cases h
      · cases h
    · cases h
end Go.Proofs.Ytecalibnnfcaeaa

/- WalkPages, the plain law: addresses of one page. -/
namespace Go.Proofs.Ytecalibnnfcaeaa
open Go.RowKit

def spN (l : Nat) : Nat := 4096 * 2 ^ (9 * l)
/-- Another address of the same page. -/
def besV (va o l : Nat) : Nat := va - va % spN l + o % spN l
theorem bes_lt {va o l : Nat} (hl : l ≤ 2) (hv : va < 18446744073709551616) : besV va o l < 18446744073709551616 := by
  unfold besV spN
  rcases (show l = 0 ∨ l = 1 ∨ l = 2 by omega) with rfl | rfl | rfl <;> simp <;> omega
theorem bes_index {va o l : Nat} (hl : l ≤ 2) (k : Nat) (hk : l ≤ k) : indexV va (k : Int) = indexV (besV va o l) (k : Int) := by
  unfold indexV
  by_cases h : levelB (k : Int) = true
  · rw [if_pos h, if_pos h]
    have h3 : k = 0 ∨ k = 1 ∨ k = 2 := by rcases level_cases h with h | h | h <;> omega
    unfold fieldV shV besV spN
    rcases (show l = 0 ∨ l = 1 ∨ l = 2 by omega) with rfl | rfl | rfl <;> rcases h3 with rfl | rfl | rfl <;> simp at hk ⊢ <;> omega
  · rw [if_neg h, if_neg h]
theorem bes_canon {va o l : Nat} (hl : l ≤ 2) : canonB (besV va o l) = canonB va := by
  have : fieldV (besV va o l) 38 26 = fieldV va 38 26 := by
    unfold fieldV besV spN
    rcases (show l = 0 ∨ l = 1 ∨ l = 2 by omega) with rfl | rfl | rfl <;> simp <;> omega
  unfold canonB
  rw [this]
theorem span_sp {l : Nat} (hl : l ≤ 2) : spanV (l : Int) = spN l := by
  rcases (show l = 0 ∨ l = 1 ∨ l = 2 by omega) with rfl | rfl | rfl <;> rfl
theorem bes_join {p va o l : Nat} (hl : l ≤ 2) (hv : va < 18446744073709551616) (hp : p < 17592186044416) :
    ((joinV p (besV va o l) (l : Int) : Nat) : Int) - (joinV p va (l : Int) : Nat) = (besV va o l : Nat) - (va : Nat) := by
  unfold joinV
  have h : levelB (l : Int) = true := by
    rcases (show l = 0 ∨ l = 1 ∨ l = 2 by omega) with rfl | rfl | rfl <;> rfl
  rw [if_pos h, if_pos h, span_sp hl]
  unfold besV spN
  rcases (show l = 0 ∨ l = 1 ∨ l = 2 by omega) with rfl | rfl | rfl <;> simp <;> omega
end Go.Proofs.Ytecalibnnfcaeaa
