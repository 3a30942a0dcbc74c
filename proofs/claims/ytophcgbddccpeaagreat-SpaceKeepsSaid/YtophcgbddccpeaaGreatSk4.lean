/- Merged texts: WalkB, WalkM, WalkP, WalkF, WalkG. -/
import Derived.Test.YtophcgbddccpeaaGreatSk3
import Derived.WalkMore
import Derived.ScopeJumps
/- entry of a table. -/
namespace Go.Proofs.YtophcgbddccpeaaGreat
open Go.RowKit

def ppnX (x : Nat) : Nat := x / 1024 % 17592186044416
def goodX (x : Nat) : Bool := x / 18014398509481984 == 0 && (bitB x 0 && (bitB x 1 || !bitB x 2))
def leafX (x : Nat) : Bool := bitB x 1 || bitB x 3
def leadX (x l : Nat) : Bool := decide (0 < l) && !bitB x 4 && !bitB x 6 && !bitB x 7
def pteZ : Value := .agg #[.bool false, .bool false, .bool false, .bool false, .bool false, .bool false, .bool false, .bool false, .int .i64 0, .int .u64 0]
def entE (n : Nat) (S : Nat → List Nat) (a : Nat) : Int := if chkE n a 8 = 0 then (if goodX (ldR n S a 8) then 0 else 51) else 61
def entV (n : Nat) (S : Nat → List Nat) (a : Nat) : Value := if entE n S a = 0 then entryV (ldR n S a 8) else pteZ
theorem ppnX_lt (x : Nat) : ppnX x < 17592186044416 := Nat.mod_lt _ (by decide)
theorem Mem.pg_lt {w : World} {g n : Nat} {F : Nat → Prop} {S : Nat → List Nat} (h : Mem w g F n S) (k i : Nat) : (S k).getD i 0 < 256 := by
  obtain ⟨mb, loc, K, h, _⟩ := h
  by_cases hk : k ∈ K
  · exact (h.page k hk).2.1 i
  · rw [h.zero k hk, zeroL_get]; decide
theorem Mem.ld_lt {w : World} {g n : Nat} {F : Nat → Prop} {S : Nat → List Nat} (h : Mem w g F n S) (a : Nat) : ldR n S a 8 < 18446744073709551616 := by
  unfold ldR
  split
  · exact leNat_take_lt _ 8 (getD_drop_lt _ _ (h.pg_lt _))
  · decide
theorem pte_row : rowT Tryz.prog 96 10 = true := by kernel_rfl
theorem pte_one (x : Nat) : (#[.bool (bitB x 0), .bool (bitB x 1), .bool (bitB x 2), .bool (bitB x 3), .bool (bitB x 4), .bool (bitB x 5), .bool (bitB x 6), .bool (bitB x 7), .int .i64 ((x : Int) / 256 % 4), .int .u64 ((x : Int) / 1024 % 17592186044416)] : Array Value).all (·.oneCell') = true := by simp [Value.oneCell']
theorem zer_one : (#[.bool false, .bool false, .bool false, .bool false, .bool false, .bool false, .bool false, .bool false, .int .i64 0, .int .u64 0] : Array Value).all (·.oneCell') = true := by simp [Value.oneCell']
theorem leaf_row : rowT Tryz.prog 98 12 = true := by kernel_rfl
set_option maxHeartbeats 1000000 in
theorem entry_any (g n a : Nat) (F : Nat → Prop) (S : Nat → List Nat) (W : World) (h : Mem W g F n S) (ha : a < 18446744073709551616) :
    Calls Tryz.prog 96 #[.pointer (some ⟨g, 0, none⟩), .int .u64 (a : Int)] W fun e w' => e = .returned (.tuple #[entV n S a, .int .i64 (entE n S a)]) ∧ Below W.heap.size W w' := by
  have HA := Lib.hid ha
  have hX := h.ld_lt a
  have HE : Hid (entE n S a = if chkE n a 8 = 0 then (if goodX (ldR n S a 8) then 0 else 51) else 61) := Lib.hid rfl
  have HV : Hid (entV n S a = if entE n S a = 0 then entryV (ldR n S a 8) else pteZ) := Lib.hid rfl
  have hw : ∃ W1, W1 = W.alloc (.cells #[.bool false, .bool false, .bool false, .bool false, .bool false, .bool false, .bool false, .bool false, .int .i64 0, .int .u64 0] 96) ∧ Blk W1 W.heap.size 96 #[.bool false, .bool false, .bool false, .bool false, .bool false, .bool false, .bool false, .bool false, .int .i64 0, .int .u64 0] ∧ Below W.heap.size W W1 ∧ Mem W1 g F n S :=
    ⟨_, rfl, Blkf.new_at _ _ _ _ rfl, (Below.refl _ _).alloc (Nat.le_refl _) _, h.below ((Below.refl _ _).alloc (Nat.le_refl _) _)⟩
  obtain ⟨W1, hW1, hz, hb1, hm⟩ := hw
  have HZ := Lib.hid hz
  have HB1 := Lib.hid hb1
  have HM := Lib.hid hm
  clear h ha hz hb1 hm
  generalize entV n S a = V at *
  generalize entE n S a = E at *
  go_enter Tryz.func96, Tryz.ntmps96
  go_wp2_with fail
  rw [← hW1]
  clear hW1
  refine (Load_any g n a 8 F S _ HM.out HA.out).mono ?_
  rintro e w ⟨rfl, rfl⟩
  have HX : Hid (ldR n S a 8 < 18446744073709551616) := Lib.hid hX
  clear hX
  generalize ldR n S a 8 = x at *
  generalize chkE n a 8 = c at *
  by_cases hc : c = 0
  · subst hc
    rw [if_pos rfl] at HE
    go_wp2_with fail
    refine (get_any x _ HX.out).mono ?_
    rintro e w1 ⟨rfl, hb⟩
    have HG := Lib.hid (HB1.out.trans (hb.mono HB1.out.size))
    have hz1 := HZ.out.below hb HZ.out.lt
    have HZ1 := Lib.hid (hz1.alloc (.cells #[.bool (bitB x 0), .bool (bitB x 1), .bool (bitB x 2), .bool (bitB x 3), .bool (bitB x 4), .bool (bitB x 5), .bool (bitB x 6), .bool (bitB x 7), .int .i64 ((x : Int) / 256 % 4), .int .u64 ((x : Int) / 1024 % 17592186044416)] 96))
    have HB2 := Lib.hid (HG.out.alloc HG.out.size (.cells #[.bool (bitB x 0), .bool (bitB x 1), .bool (bitB x 2), .bool (bitB x 3), .bool (bitB x 4), .bool (bitB x 5), .bool (bitB x 6), .bool (bitB x 7), .int .i64 ((x : Int) / 256 % 4), .int .u64 ((x : Int) / 1024 % 17592186044416)] 96))
    have HP2 := Lib.hid (Blkf.new_at w1 96 (0, 0) #[.bool (bitB x 0), .bool (bitB x 1), .bool (bitB x 2), .bool (bitB x 3), .bool (bitB x 4), .bool (bitB x 5), .bool (bitB x 6), .bool (bitB x 7), .int .i64 ((x : Int) / 256 % 4), .int .u64 ((x : Int) / 1024 % 17592186044416)] rfl)
    clear hb hz1
    have hgx : goodX x = ((x / 18014398509481984 == 0) && (bitB x 0 && (bitB x 1 || !bitB x 2))) := rfl
    rcases Bool.eq_false_or_eq_true (x / 18014398509481984 == 0) with h54 | h54
    · rw [h54] at hgx ⊢
      have HGX := Lib.hid hgx
      clear hgx h54
      go_wp2_with (first | ((with_reducible refine wl_store_new 96 (.tmp 8) (.tmp 22) rfl ?_ w1 (World.heap w1).size 96 #[.bool false, .bool false, .bool false, .bool false, .bool false, .bool false, .bool false, .bool false, .int .i64 0, .int .u64 0] #[.bool (bitB x 0), .bool (bitB x 1), .bool (bitB x 2), .bool (bitB x 3), .bool (bitB x 4), .bool (bitB x 5), .bool (bitB x 6), .bool (bitB x 7), .int .i64 ((x : Int) / 256 % 4), .int .u64 ((x : Int) / 1024 % 17592186044416)] ?_ ?_ ?_ ?_ ?_ ?_ ?_ ?_); exact rfl; exact rfl; exact rfl; exact rfl; exact rfl; exact rfl; exact pte_row; exact pte_one x))
      generalize w1.alloc (.cells #[.bool (bitB x 0), .bool (bitB x 1), .bool (bitB x 2), .bool (bitB x 3), .bool (bitB x 4), .bool (bitB x 5), .bool (bitB x 6), .bool (bitB x 7), .int .i64 ((x : Int) / 256 % 4), .int .u64 ((x : Int) / 1024 % 17592186044416)] 96) = w2 at *
      go_wp2_with (first | ((with_reducible refine wl_load 96 (.tmp 8) rfl ?_ w1.heap.size 0 #[.bool (bitB x 0), .bool (bitB x 1), .bool (bitB x 2), .bool (bitB x 3), .bool (bitB x 4), .bool (bitB x 5), .bool (bitB x 6), .bool (bitB x 7), .int .i64 ((x : Int) / 256 % 4), .int .u64 ((x : Int) / 1024 % 17592186044416)] ?_ HP2.out.range ?_ ?_); exact rfl; exact rfl; exact pte_row))
      refine (right_any _ _ _ _ _ _ _ _ _ _ _).mono ?_
      rintro e w3 ⟨rfl, hb3⟩
      have hgx := HGX.out
      rw [Bool.true_and] at hgx
      rw [← hgx]
      clear hgx
      have HZ3 := Lib.hid (HZ1.out.below hb3 HZ1.out.lt)
      have HB3 := Lib.hid (HB2.out.trans (hb3.mono HB2.out.size))
      have HP3 := Lib.hid (HP2.out.below hb3 HP2.out.lt)
      clear hb3
      rcases Bool.eq_false_or_eq_true (goodX x) with hg1 | hg1
      · rw [hg1] at HE ⊢
        go_wp2_with (first | ((with_reducible refine wl_load 96 (.tmp 8) rfl ?_ w1.heap.size 0 #[.bool (bitB x 0), .bool (bitB x 1), .bool (bitB x 2), .bool (bitB x 3), .bool (bitB x 4), .bool (bitB x 5), .bool (bitB x 6), .bool (bitB x 7), .int .i64 ((x : Int) / 256 % 4), .int .u64 ((x : Int) / 1024 % 17592186044416)] ?_ HP3.out.range ?_ ?_); exact rfl; exact rfl; exact pte_row) | ((with_reducible refine wl_store 96 (.tmp 4) (.tmp 32) rfl ?_ W.heap.size 96 #[.bool false, .bool false, .bool false, .bool false, .bool false, .bool false, .bool false, .bool false, .int .i64 0, .int .u64 0] #[.bool (bitB x 0), .bool (bitB x 1), .bool (bitB x 2), .bool (bitB x 3), .bool (bitB x 4), .bool (bitB x 5), .bool (bitB x 6), .bool (bitB x 7), .int .i64 ((x : Int) / 256 % 4), .int .u64 ((x : Int) / 1024 % 17592186044416)] ?_ ?_ HZ3.out ?_ ?_ ?_ ?_); exact rfl; exact rfl; exact rfl; exact rfl; exact pte_row; exact pte_one x))
        refine bodyPost_ret (res_cell_slot (cs := #[.bool (bitB x 0), .bool (bitB x 1), .bool (bitB x 2), .bool (bitB x 3), .bool (bitB x 4), .bool (bitB x 5), .bool (bitB x 6), .bool (bitB x 7), .int .i64 ((x : Int) / 256 % 4), .int .u64 ((x : Int) / 1024 % 17592186044416)]) (v := .int .i64 0) rfl _ _ W.heap.size 96 rfl rfl (HZ3.out.setRow _) pte_row) rfl ⟨?_, below_setRow HB3.out (Nat.le_refl _) _⟩
        rw [HV.out, HE.out]
        rfl
      · rw [hg1] at HE ⊢
        go_wp2_with (first | ((with_reducible refine wl_store 96 (.tmp 4) (.tmp 31) rfl ?_ W.heap.size 96 #[.bool false, .bool false, .bool false, .bool false, .bool false, .bool false, .bool false, .bool false, .int .i64 0, .int .u64 0] #[.bool false, .bool false, .bool false, .bool false, .bool false, .bool false, .bool false, .bool false, .int .i64 0, .int .u64 0] ?_ ?_ HZ3.out ?_ ?_ ?_ ?_); exact rfl; exact rfl; exact rfl; exact rfl; exact pte_row; exact zer_one))
        refine bodyPost_ret (res_cell_slot (cs := #[.bool false, .bool false, .bool false, .bool false, .bool false, .bool false, .bool false, .bool false, .int .i64 0, .int .u64 0]) (v := .int .i64 51) rfl _ _ W.heap.size 96 rfl rfl (HZ3.out.setRow _) pte_row) rfl ⟨?_, below_setRow HB3.out (Nat.le_refl _) _⟩
        rw [HV.out, HE.out]
        rfl
    · rw [h54] at hgx ⊢
      rw [Bool.false_and] at hgx
      rw [hgx] at HE
      clear hgx h54
      go_wp2_with (first | ((with_reducible refine wl_store 96 (.tmp 4) (.tmp 31) rfl ?_ W.heap.size 96 #[.bool false, .bool false, .bool false, .bool false, .bool false, .bool false, .bool false, .bool false, .int .i64 0, .int .u64 0] #[.bool false, .bool false, .bool false, .bool false, .bool false, .bool false, .bool false, .bool false, .int .i64 0, .int .u64 0] ?_ ?_ HZ1.out ?_ ?_ ?_ ?_); exact rfl; exact rfl; exact rfl; exact rfl; exact pte_row; exact zer_one) | ((with_reducible refine wl_store_new 96 (.tmp 8) (.tmp 22) rfl ?_ w1 (World.heap w1).size 96 #[.bool false, .bool false, .bool false, .bool false, .bool false, .bool false, .bool false, .bool false, .int .i64 0, .int .u64 0] #[.bool (bitB x 0), .bool (bitB x 1), .bool (bitB x 2), .bool (bitB x 3), .bool (bitB x 4), .bool (bitB x 5), .bool (bitB x 6), .bool (bitB x 7), .int .i64 ((x : Int) / 256 % 4), .int .u64 ((x : Int) / 1024 % 17592186044416)] ?_ ?_ ?_ ?_ ?_ ?_ ?_ ?_); exact rfl; exact rfl; exact rfl; exact rfl; exact rfl; exact rfl; exact pte_row; exact pte_one x))
      generalize w1.alloc (.cells #[.bool (bitB x 0), .bool (bitB x 1), .bool (bitB x 2), .bool (bitB x 3), .bool (bitB x 4), .bool (bitB x 5), .bool (bitB x 6), .bool (bitB x 7), .int .i64 ((x : Int) / 256 % 4), .int .u64 ((x : Int) / 1024 % 17592186044416)] 96) = w2 at *
      refine bodyPost_ret (res_cell_slot (cs := #[.bool false, .bool false, .bool false, .bool false, .bool false, .bool false, .bool false, .bool false, .int .i64 0, .int .u64 0]) (v := .int .i64 51) rfl _ _ W.heap.size 96 rfl rfl (HZ1.out.setRow _) pte_row) rfl ⟨?_, below_setRow HB2.out (Nat.le_refl _) _⟩
      rw [HV.out, HE.out]
      rfl
  · rw [if_neg hc] at HE
    have hc2 : (c != 0) = true := by simpa using hc
    go_wp2_with (first | ((with_reducible refine wl_store 96 (.tmp 4) (.tmp 18) rfl ?_ W.heap.size 96 #[.bool false, .bool false, .bool false, .bool false, .bool false, .bool false, .bool false, .bool false, .int .i64 0, .int .u64 0] #[.bool false, .bool false, .bool false, .bool false, .bool false, .bool false, .bool false, .bool false, .int .i64 0, .int .u64 0] ?_ ?_ HZ.out ?_ ?_ ?_ ?_); exact rfl; exact rfl; exact rfl; exact rfl; exact pte_row; exact zer_one))
    refine bodyPost_ret (res_cell_slot (cs := #[.bool false, .bool false, .bool false, .bool false, .bool false, .bool false, .bool false, .bool false, .int .i64 0, .int .u64 0]) (v := .int .i64 61) rfl _ _ W.heap.size 96 rfl rfl (HZ.out.setRow _) pte_row) rfl ⟨?_, below_setRow HB1.out (Nat.le_refl _) _⟩
    rw [HV.out, HE.out]
    rfl
end Go.Proofs.YtophcgbddccpeaaGreat

/- What the walk finds: the model, and its plain laws. -/
namespace Go.Proofs.YtophcgbddccpeaaGreat
open Go.RowKit

inductive Fd where
  | err (e : Int)
  | leaf (x l a : Nat)
def atX (va t l : Nat) : Nat := (t * 4096 + 8 * indexV va (l : Int)) % 18446744073709551616
def fdAt (n : Nat) (S : Nat → List Nat) (va l t : Nat) (k : Fd) : Fd :=
  if chkE n (atX va t l) 8 = 0 then
    if goodX (ldR n S (atX va t l) 8) then
      if leafX (ldR n S (atX va t l) 8) then (if evenB (ppnX (ldR n S (atX va t l) 8)) l then .leaf (ldR n S (atX va t l) 8) l (atX va t l) else .err 51)
      else if leadX (ldR n S (atX va t l) 8) l then k else .err 51
    else .err 51
  else .err 61
def findF (n : Nat) (S : Nat → List Nat) (va : Nat) : Nat → Nat → Fd
  | 0, t => fdAt n S va 0 t (.err 51)
  | l + 1, t => fdAt n S va (l + 1) t (findF n S va l (ppnX (ldR n S (atX va t (l + 1)) 8)))
theorem atX_lt (va t l : Nat) : atX va t l < 18446744073709551616 := Nat.mod_lt _ (by decide)
theorem fdAt_leaf {n : Nat} {S : Nat → List Nat} {va L t x l a : Nat} {k : Fd} (h : fdAt n S va L t k = .leaf x l a) :
    (l = L ∧ a = atX va t L ∧ chkE n a 8 = 0 ∧ x = ldR n S a 8) ∨ k = .leaf x l a := by
  unfold fdAt at h
  split at h
  · rename_i h1
    split at h
    · split at h
      · split at h
        · injection h with h2 h3 h4
          subst h3; subst h4
          exact .inl ⟨rfl, rfl, h1, h2.symm⟩
        · cases h
      · split at h
        · exact .inr h
        · cases h
    · cases h
  · cases h
theorem fdAt_congr {n : Nat} {S : Nat → List Nat} {va b L t : Nat} {k : Fd} (h : atX va t L = atX b t L) : fdAt n S va L t k = fdAt n S b L t k := by
  unfold fdAt
  rw [h]
theorem chk_at {n a : Nat} (h : chkE n a 8 = 0) : a % 8 = 0 ∧ a < 4096 * n := by
  unfold chkE at h
  split at h
  · cases h
  · split at h
    · cases h
    · rename_i h1
      split at h
      · cases h
      · rename_i h2
        refine ⟨?_, by omega⟩
        have : alignedB a 8 = true := by simpa using h1
        simpa [alignedB, sizeB] using this
theorem find_leaf {n : Nat} {S : Nat → List Nat} {va x l a : Nat} : ∀ {L t : Nat}, findF n S va L t = .leaf x l a → l ≤ L ∧ a % 8 = 0 ∧ a < 4096 * n ∧ x = ldR n S a 8
  | 0, t, h => by
    rcases fdAt_leaf h with ⟨h1, _, h3, h4⟩ | h1
    · exact ⟨by omega, (chk_at h3).1, (chk_at h3).2, h4⟩
    · cases h1
  | L + 1, t, h => by
    rcases fdAt_leaf h with ⟨h1, _, h3, h4⟩ | h1
    · exact ⟨by omega, (chk_at h3).1, (chk_at h3).2, h4⟩
    · have := find_leaf h1
      exact ⟨by omega, this.2⟩
theorem find_page {n : Nat} {S : Nat → List Nat} {va b x l a : Nat} (hi : ∀ k : Nat, l ≤ k → indexV va (k : Int) = indexV b (k : Int)) : ∀ {L t : Nat}, findF n S va L t = .leaf x l a → findF n S b L t = .leaf x l a
  | 0, t, h => by
    have h1 := (find_leaf h).1
    unfold findF at h ⊢
    rw [← fdAt_congr (by unfold atX; rw [hi 0 h1])]
    exact h
  | L + 1, t, h => by
    have h1 := (find_leaf h).1
    have e : atX va t (L + 1) = atX b t (L + 1) := by unfold atX; rw [hi (L + 1) h1]
    unfold findF at h ⊢
    rw [← fdAt_congr e, ← e]
    have hk := @find_page (t := ppnX (ldR n S (atX va t (L + 1)) 8)) n S va b x l a hi L
    unfold fdAt at h ⊢
    split at h
    · rename_i h2
      rw [if_pos h2]
      split at h
      · rename_i h3
        rw [if_pos h3]
        split at h
        · rename_i h4
          rw [if_pos h4]
          exact h
        · rename_i h4
          rw [if_neg h4]
          split at h
          · rename_i h5
            rw [if_pos h5]
            exact hk h
          · cases h
      · cases h
    · cases h
end Go.Proofs.YtophcgbddccpeaaGreat

/- WalkPages, the plain law: addresses of one page. -/
namespace Go.Proofs.YtophcgbddccpeaaGreat
open Go.RowKit

def spN (l : Nat) : Nat := 4096 * 2 ^ (9 * l)
/-- Another address of the same page. -/
def besV (va o l : Nat) : Nat := va - va % spN l + o % spN l
theorem bes_lt {va o l : Nat} (hl : l ≤ 2) (hv : va < 18446744073709551616) : besV va o l < 18446744073709551616 := by
  unfold besV spN
  rcases (show l = 0 ∨ l = 1 ∨ l = 2 by omega) with rfl | rfl | rfl <;> simp <;> omega
theorem bes_index {va o l : Nat} (hl : l ≤ 2) (k : Nat) (hk : l ≤ k) : indexV va (k : Int) = indexV (besV va o l) (k : Int) := by
  unfold indexV
  by_cases h : levelB (k : Int) = true
  · rw [if_pos h, if_pos h]
    have h3 : k = 0 ∨ k = 1 ∨ k = 2 := by rcases level_cases h with h | h | h <;> omega
    unfold fieldV shV besV spN
    rcases (show l = 0 ∨ l = 1 ∨ l = 2 by omega) with rfl | rfl | rfl <;> rcases h3 with rfl | rfl | rfl <;> simp at hk ⊢ <;> omega
  · rw [if_neg h, if_neg h]
theorem bes_canon {va o l : Nat} (hl : l ≤ 2) : canonB (besV va o l) = canonB va := by
  have : fieldV (besV va o l) 38 26 = fieldV va 38 26 := by
    unfold fieldV besV spN
    rcases (show l = 0 ∨ l = 1 ∨ l = 2 by omega) with rfl | rfl | rfl <;> simp <;> omega
  unfold canonB
  rw [this]
theorem span_sp {l : Nat} (hl : l ≤ 2) : spanV (l : Int) = spN l := by
  rcases (show l = 0 ∨ l = 1 ∨ l = 2 by omega) with rfl | rfl | rfl <;> rfl
theorem bes_join {p va o l : Nat} (hl : l ≤ 2) (hv : va < 18446744073709551616) (hp : p < 17592186044416) :
    ((joinV p (besV va o l) (l : Int) : Nat) : Int) - (joinV p va (l : Int) : Nat) = (besV va o l : Nat) - (va : Nat) := by
  unfold joinV
  have h : levelB (l : Int) = true := by
    rcases (show l = 0 ∨ l = 1 ∨ l = 2 by omega) with rfl | rfl | rfl <;> rfl
  rw [if_pos h, if_pos h, span_sp hl]
  unfold besV spN
  rcases (show l = 0 ∨ l = 1 ∨ l = 2 by omega) with rfl | rfl | rfl <;> simp <;> omega
end Go.Proofs.YtophcgbddccpeaaGreat

/- Find. -/
namespace Go.Proofs.YtophcgbddccpeaaGreat
open Go.RowKit

def fdV : Fd → Value
  | .err _ => .agg #[.bool false, .bool false, .bool false, .bool false, .bool false, .bool false, .bool false, .bool false, .int .i64 0, .int .u64 0, .int .i64 0, .int .u64 0]
  | .leaf x l a => .agg #[.bool (bitB x 0), .bool (bitB x 1), .bool (bitB x 2), .bool (bitB x 3), .bool (bitB x 4), .bool (bitB x 5), .bool (bitB x 6), .bool (bitB x 7), .int .i64 ((x : Int) / 256 % 4), .int .u64 ((x : Int) / 1024 % 17592186044416), .int .i64 (l : Int), .int .u64 (a : Int)]
def fdE : Fd → Int
  | .err e => e
  | .leaf _ _ _ => 0
/-- What is found of an address. -/
def findW (n : Nat) (S : Nat → List Nat) (on : Bool) (ppn va : Nat) : Fd := if on then (if canonB va then findF n S va 2 ppn else .err 51) else .err 2
theorem leafx_any (x : Nat) (W : World) : Calls Tryz.prog 81 #[.agg #[.bool (bitB x 0), .bool (bitB x 1), .bool (bitB x 2), .bool (bitB x 3), .bool (bitB x 4), .bool (bitB x 5), .bool (bitB x 6), .bool (bitB x 7), .int .i64 ((x : Int) / 256 % 4), .int .u64 ((x : Int) / 1024 % 17592186044416)]] W fun e w' => e = .returned (.bool (leafX x)) ∧ Below W.heap.size W w' := leaf_any _ _ _ _ _ _ _ _ _ _ _
theorem leadsx_any (x l : Nat) (hl : l ≤ 2) (W : World) : Calls Tryz.prog 98 #[.agg #[.bool (bitB x 0), .bool (bitB x 1), .bool (bitB x 2), .bool (bitB x 3), .bool (bitB x 4), .bool (bitB x 5), .bool (bitB x 6), .bool (bitB x 7), .int .i64 ((x : Int) / 256 % 4), .int .u64 ((x : Int) / 1024 % 17592186044416)], .int .i64 (l : Int)] W fun e w' => e = .returned (.bool (leadX x l)) ∧ Below W.heap.size W w' := leads_any _ _ _ _ _ _ _ _ _ _ _ _ hl
theorem fr_intro {Φ : (Nat → Value) → Act} (a : Act) (h : a = Φ (fun i => a.tmps.getD i undef)) : ∃ x, a = Φ x := ⟨_, h⟩
theorem fdAt_err {n : Nat} {S : Nat → List Nat} {va l t : Nat} {k : Fd} (h : entE n S (atX va t l) ≠ 0) : fdAt n S va l t k = .err (entE n S (atX va t l)) := by
  unfold fdAt entE at *
  split
  · rename_i h1
    rw [if_pos h1] at h
    split
    · rename_i h2; rw [if_pos h2] at h; exact absurd rfl h
    · rename_i h2; rfl
  · rfl
theorem fdAt_ok {n : Nat} {S : Nat → List Nat} {va l t : Nat} {k : Fd} (h : entE n S (atX va t l) = 0) : fdAt n S va l t k =
    if leafX (ldR n S (atX va t l) 8) then (if evenB (ppnX (ldR n S (atX va t l) 8)) l then .leaf (ldR n S (atX va t l) 8) l (atX va t l) else .err 51)
      else if leadX (ldR n S (atX va t l) 8) l then k else .err 51 := by
  unfold entE at h
  unfold fdAt
  split at h
  · rename_i h1
    rw [if_pos h1]
    split at h
    · rename_i h2
      rw [if_pos h2]
    · cases h
  · cases h
def nextF (n : Nat) (S : Nat → List Nat) (va t : Nat) : Nat → Fd
  | 0 => .err 51
  | k + 1 => findF n S va k (ppnX (ldR n S (atX va t (k + 1)) 8))
theorem find_eq (n : Nat) (S : Nat → List Nat) (va l t : Nat) : findF n S va l t = fdAt n S va l t (nextF n S va t l) := by
  cases l <;> rfl
theorem ppn_x (x : Nat) : (x : Int) / 1024 % 17592186044416 = ((ppnX x : Nat) : Int) := by unfold ppnX; omega
theorem lead_pos {x l : Nat} (h : leadX x l = true) : ∃ m, l = m + 1 := by
  cases l with
  | zero => simp [leadX] at h
  | succ m => exact ⟨m, rfl⟩
theorem el_one (x l a : Nat) : (#[.bool (bitB x 0), .bool (bitB x 1), .bool (bitB x 2), .bool (bitB x 3), .bool (bitB x 4), .bool (bitB x 5), .bool (bitB x 6), .bool (bitB x 7), .int .i64 ((x : Int) / 256 % 4), .int .u64 ((x : Int) / 1024 % 17592186044416), .int .i64 (l : Int), .int .u64 (a : Int)] : Array Value).all (·.oneCell') = true := by simp [Value.oneCell']
theorem lzer_one : (#[.bool false, .bool false, .bool false, .bool false, .bool false, .bool false, .bool false, .bool false, .int .i64 0, .int .u64 0, .int .i64 0, .int .u64 0] : Array Value).all (·.oneCell') = true := by simp [Value.oneCell']
theorem Mem.drew {w : World} {g n : Nat} {F : Nat → Prop} {S : Nat → List Nat} (h : Mem w g F n S) : Mem w.drew g F n S := h.keeps (G := fun _ => False) (Keeps.refl _ _).drew (fun _ _ h => h)
/-- What holds at the label. -/
def DnJ (g n va : Nat) (F : Nat → Prop) (S : Nat → List Nat) (fd : Fd) (W : World) (a : Act) (w : World) : Prop :=
  ∃ (l t pb : Nat) (c : Nat → Value), (∃ x : Nat → Value, a = ⟨#[.pointer (some ⟨g, 0, none⟩), x 1, .int .u64 (va : Int), x 3, x 4, x 5, .pointer (some ⟨W.heap.size + 1, 0, none⟩), .int .i64 0, x 8, .pointer (some ⟨pb, 0, none⟩), x 10, .int .i64 (l : Int), .int .u64 (t : Int), x 13, x 14, x 15, x 16, x 17, x 18, x 19, x 20, x 21, x 22, x 23, x 24, x 25, x 26, x 27, x 28, x 29, x 30, x 31, x 32, x 33, x 34, x 35, x 36, x 37, x 38, x 39, x 40, x 41, x 42, x 43, x 44, x 45, x 46, x 47, x 48, x 49, x 50, x 51, x 52, x 53, x 54, x 55, x 56, x 57, x 58, x 59, x 60, x 61, x 62, x 63, x 64, x 65, x 66, x 67, x 68, x 69, x 70, x 71, x 72, x 73, x 74], []⟩) ∧ l ≤ 2 ∧ t < 18446744073709551616 ∧ fd = findF n S va l t ∧
    Blk w (W.heap.size + 1) 98 #[.bool false, .bool false, .bool false, .bool false, .bool false, .bool false, .bool false, .bool false, .int .i64 0, .int .u64 0, .int .i64 0, .int .u64 0] ∧ Blk w pb 96 #[c 0, c 1, c 2, c 3, c 4, c 5, c 6, c 7, c 8, c 9] ∧ W.heap.size + 1 < pb ∧ Below W.heap.size W w
theorem at_wrap (va t : Nat) (l : Nat) : IntKind.u64.wrap (IntKind.u64.wrap ((t : Int) * 4096) + IntKind.u64.wrap (8 * IntKind.u64.wrap ((indexV va (l : Int) : Nat) : Int))) = ((atX va t l : Nat) : Int) := by
  rw [IntKind.wrap_u64, IntKind.wrap_u64, IntKind.wrap_u64, IntKind.wrap_u64]
  unfold atX
  omega
theorem u64_ix (va : Nat) (l : Int) : IntKind.u64.wrap ((indexV va l : Nat) : Int) = ((indexV va l : Nat) : Int) := by
  have : indexV va l < 512 := by
    unfold indexV
    split
    · exact fieldV_lt _ _ _
    · decide
  rw [IntKind.wrap_u64]; omega
set_option maxHeartbeats 4000000 in
theorem find_any (g n va ppn : Nat) (asid : Int) (on : Bool) (F : Nat → Prop) (S : Nat → List Nat) (W : World) (h : Mem W g F n S) (hv : va < 18446744073709551616) (hp : ppn < 18446744073709551616) (hon : on = true) (hca : canonB va = true) :
    Calls Tryz.prog 78 #[.pointer (some ⟨g, 0, none⟩), .agg #[.bool on, .int .i64 asid, .int .u64 (ppn : Int)], .int .u64 (va : Int)] W fun e w' =>
      e = .returned (.tuple #[fdV (findF n S va 2 ppn), .int .i64 (fdE (findF n S va 2 ppn))]) ∧ Below W.heap.size W w' := by
  have HM := Lib.hid h
  have HV := Lib.hid hv
  have HP := Lib.hid hp
  have HC := Lib.hid hca
  have HA : Hid (∃ W3, W3 = ((W.alloc (.cells #[.bool true, .int .i64 asid, .int .u64 (ppn : Int)] 76)).alloc (.cells #[.bool false, .bool false, .bool false, .bool false, .bool false, .bool false, .bool false, .bool false, .int .i64 0, .int .u64 0, .int .i64 0, .int .u64 0] 98)).alloc (.cells #[.bool false, .bool false, .bool false, .bool false, .bool false, .bool false, .bool false, .bool false, .int .i64 0, .int .u64 0] 96) ∧ W3.cell? ⟨W.heap.size, 2, none⟩ = some (.int .u64 (ppn : Int)) ∧ Blk W3 (W.heap.size + 1) 98 #[.bool false, .bool false, .bool false, .bool false, .bool false, .bool false, .bool false, .bool false, .int .i64 0, .int .u64 0, .int .i64 0, .int .u64 0] ∧ Blk W3 (W.heap.size + 1 + 1) 96 #[.bool false, .bool false, .bool false, .bool false, .bool false, .bool false, .bool false, .bool false, .int .i64 0, .int .u64 0] ∧ Below W.heap.size W W3 ∧ W.heap.size < W3.heap.size) := by
    refine Lib.hid ⟨_, rfl, by simp [go_sem], ?_, Blkf.new_at _ _ _ _ (by simp), (((Below.refl _ _).alloc (Nat.le_refl _) _).alloc (by simp) _).alloc (by simp; omega) _, by simp; omega⟩
    exact (Blkf.new_at _ _ _ _ (by simp)).alloc _
  clear h hv hp hca
  subst hon
  obtain ⟨fd, hfd⟩ : ∃ fd, fd = findF n S va 2 ppn := ⟨_, rfl⟩
  have HF := Lib.hid hfd
  rw [← hfd]
  clear hfd
  go_enter Tryz.func78, Tryz.ntmps78
  go_wp2_with fail
  refine wp_scope_jumps 0 (DnJ g n va F S fd W) (fun a _ => (intOf (a.tmps.getD 11 undef)).toNat) rfl ?_ ?_
  · go_wp2_with fail
    refine (canon_any va _ HV.out).mono ?_
    rintro e w' ⟨rfl, rfl⟩
    rw [HC.out]
    go_wp2_with fail
    obtain ⟨W3, hW3, hc2, hz, hpb, hb3, hsz⟩ := HA.out
    rw [← hW3]
    clear hW3
    have HZ := Lib.hid hz
    have HPB := Lib.hid hpb
    have HB3 := Lib.hid hb3
    have hs : ∀ W', Ext W3.drew W' → W'.cell? ⟨W.heap.size, 2, none⟩ = some (.int .u64 (ppn : Int)) := fun W' h => (h.cell hsz).trans hc2
    clear hz hpb hb3
    refine wp_region_plan [(0, false), (1, false), (2, false), (3, false)] (by kernel_rfl) (by kernel_rfl) (fun _ d _ _ _ h => by cases d <;> exact h) ?_
    iterate 4 (refine plan_take (v := ?_) rfl (by kernel_rfl) ?_ ?_; rotate_left; (focus (intro w' hw'; try go_simp; try with_reducible rfl)); simp only [Act.put, List.setIfInBounds_toArray, List.set_cons_zero, List.set_cons_succ])
    refine plan_end ?_
    go_wp2_with fail
    go_step3
    have HMW := Lib.hid ((HM.out.below HB3.out).drew)
    replace HZ := Lib.hid HZ.out.drew
    replace HPB := Lib.hid HPB.out.drew
    have HB := Lib.hid HB3.out.drew
    have HNE : Hid (W.heap.size + 1 < W.heap.size + 1 + 1) := Lib.hid (by omega)
    go_wp2_with fail
    refine (index_any va 2 _ HV.out).mono ?_
    rintro e w' ⟨rfl, rfl⟩
    go_wp2_with fail
    rw [show IntKind.u64.wrap (IntKind.u64.wrap ((ppn : Int) * 4096) + IntKind.u64.wrap (8 * IntKind.u64.wrap ((indexV va 2 : Nat) : Int))) = ((atX va ppn 2 : Nat) : Int) from at_wrap va ppn 2]
    have HEQ := Lib.hid (HF.out.trans (find_eq n S va 2 ppn))
    generalize hatx : atX va ppn 2 = at_ at *
    have HAT : Hid (at_ < 18446744073709551616) := Lib.hid (by rw [← hatx]; exact atX_lt _ _ _)
    have HAX := Lib.hid hatx
    clear hatx
    refine (entry_any g n at_ F S _ HMW.out HAT.out).mono ?_
    rintro e w1 ⟨rfl, hb1⟩
    have HZ1 := Lib.hid (HZ.out.below hb1 HZ.out.lt)
    have HPB1 := Lib.hid (HPB.out.below hb1 HPB.out.lt)
    have HB1 := Lib.hid (HB.out.trans (hb1.mono HB.out.size))
    have HZ2 : Hid (∀ cs, Blkf (w1.setRow (W.heap.size + 1 + 1) cs) (W.heap.size + 1) 98 (0, 0) #[.bool false, .bool false, .bool false, .bool false, .bool false, .bool false, .bool false, .bool false, .int .i64 0, .int .u64 0, .int .i64 0, .int .u64 0]) := Lib.hid fun cs => HZ1.out.setRow_far (by have := HNE.out; omega) cs
    have HB2 : Hid (∀ cs, Below W.heap.size W (w1.setRow (W.heap.size + 1 + 1) cs)) := Lib.hid fun cs => below_setRow HB1.out (by have := HNE.out; omega) cs
    clear hb1
    by_cases hE : entE n S at_ = 0
    · have hV : entV n S at_ = entryV (ldR n S at_ 8) := if_pos hE
      rw [hV, hE]
      have hok := fdAt_ok (n := n) (S := S) (va := va) (l := 2) (t := ppn) (k := nextF n S va ppn 2) (by rw [HAX.out]; exact hE)
      rw [← HEQ.out, HAX.out] at hok
      obtain ⟨x0, hx0⟩ : ∃ x0, x0 = ldR n S at_ 8 := ⟨_, rfl⟩
      rw [← hx0] at hok ⊢
      have HOK := Lib.hid hok
      have HX0 := Lib.hid hx0
      clear hok hx0 hV hE
      have HPB2 := Lib.hid (HPB1.out.setRow (#[.bool (bitB x0 0), .bool (bitB x0 1), .bool (bitB x0 2), .bool (bitB x0 3), .bool (bitB x0 4), .bool (bitB x0 5), .bool (bitB x0 6), .bool (bitB x0 7), .int .i64 ((x0 : Int) / 256 % 4), .int .u64 ((x0 : Int) / 1024 % 17592186044416)]))
      have hp2 : ∀ W', Ext (w1.setRow (W.heap.size + 1 + 1) (#[.bool (bitB x0 0), .bool (bitB x0 1), .bool (bitB x0 2), .bool (bitB x0 3), .bool (bitB x0 4), .bool (bitB x0 5), .bool (bitB x0 6), .bool (bitB x0 7), .int .i64 ((x0 : Int) / 256 % 4), .int .u64 ((x0 : Int) / 1024 % 17592186044416)])) W' → Blk W' (W.heap.size + 1 + 1) 96 (#[.bool (bitB x0 0), .bool (bitB x0 1), .bool (bitB x0 2), .bool (bitB x0 3), .bool (bitB x0 4), .bool (bitB x0 5), .bool (bitB x0 6), .bool (bitB x0 7), .int .i64 ((x0 : Int) / 256 % 4), .int .u64 ((x0 : Int) / 1024 % 17592186044416)]) := fun W' h => HPB2.out.below h HPB2.out.lt
      go_wp2_with (first | ((with_reducible refine wl_store 96 (.tmp 9) (.tmp 41) rfl ?_ (W.heap.size + 1 + 1) 96 _ #[.bool (bitB x0 0), .bool (bitB x0 1), .bool (bitB x0 2), .bool (bitB x0 3), .bool (bitB x0 4), .bool (bitB x0 5), .bool (bitB x0 6), .bool (bitB x0 7), .int .i64 ((x0 : Int) / 256 % 4), .int .u64 ((x0 : Int) / 1024 % 17592186044416)] ?_ ?_ HPB1.out ?_ ?_ ?_ ?_); exact rfl; exact rfl; exact rfl; exact rfl; exact pte_row; exact pte_one x0) | ((with_reducible refine wl_load 96 (.tmp 9) rfl ?_ (W.heap.size + 1 + 1) 0 #[.bool (bitB x0 0), .bool (bitB x0 1), .bool (bitB x0 2), .bool (bitB x0 3), .bool (bitB x0 4), .bool (bitB x0 5), .bool (bitB x0 6), .bool (bitB x0 7), .int .i64 ((x0 : Int) / 256 % 4), .int .u64 ((x0 : Int) / 1024 % 17592186044416)] ?_ HPB2.out.range ?_ ?_); exact rfl; exact rfl; exact pte_row))
      refine (leafx_any x0 _).mono ?_
      rintro e w2 ⟨rfl, hb2⟩
      have HZ3 := Lib.hid ((HZ2.out _).below hb2 (HZ2.out _).lt)
      have HPB3 := Lib.hid (HPB2.out.below hb2 HPB2.out.lt)
      have HB3' := Lib.hid ((HB2.out _).trans (hb2.mono (HB2.out _).size))
      clear hb2 hp2
      have hc9 := HPB3.out.cell 9
      simp at hc9
      rcases Bool.eq_false_or_eq_true (leafX x0) with hlf | hlf
      · rw [hlf]
        go_wp2_with (first | ((with_reducible refine wl_load 96 (.tmp 9) rfl ?_ (W.heap.size + 1 + 1) 0 #[.bool (bitB x0 0), .bool (bitB x0 1), .bool (bitB x0 2), .bool (bitB x0 3), .bool (bitB x0 4), .bool (bitB x0 5), .bool (bitB x0 6), .bool (bitB x0 7), .int .i64 ((x0 : Int) / 256 % 4), .int .u64 ((x0 : Int) / 1024 % 17592186044416)] ?_ HPB3.out.range ?_ ?_); exact rfl; exact rfl; exact pte_row))
        rw [ppn_x]
        refine (even_any (ppnX x0) 2 _ (Nat.lt_trans (ppnX_lt _) (by decide)) (by decide)).mono ?_
        rintro e w3 ⟨rfl, rfl⟩
        rcases Bool.eq_false_or_eq_true (evenB (ppnX x0) 2) with hev | hev
        · rw [hev]
          have HFE : Hid (fd = .leaf x0 2 at_) := Lib.hid (by rw [HOK.out, if_pos hlf, if_pos hev])
          clear hlf hev
          go_wp2_with (first | ((with_reducible refine wl_load 96 (.tmp 9) rfl ?_ (W.heap.size + 1 + 1) 0 #[.bool (bitB x0 0), .bool (bitB x0 1), .bool (bitB x0 2), .bool (bitB x0 3), .bool (bitB x0 4), .bool (bitB x0 5), .bool (bitB x0 6), .bool (bitB x0 7), .int .i64 ((x0 : Int) / 256 % 4), .int .u64 ((x0 : Int) / 1024 % 17592186044416)] ?_ HPB3.out.range ?_ ?_); exact rfl; exact rfl; exact pte_row) | ((with_reducible refine wl_store 98 (.tmp 6) (.tmp 60) rfl ?_ (W.heap.size + 1) 98 #[.bool false, .bool false, .bool false, .bool false, .bool false, .bool false, .bool false, .bool false, .int .i64 0, .int .u64 0, .int .i64 0, .int .u64 0] #[.bool (bitB x0 0), .bool (bitB x0 1), .bool (bitB x0 2), .bool (bitB x0 3), .bool (bitB x0 4), .bool (bitB x0 5), .bool (bitB x0 6), .bool (bitB x0 7), .int .i64 ((x0 : Int) / 256 % 4), .int .u64 ((x0 : Int) / 1024 % 17592186044416), .int .i64 (2 : Int), .int .u64 (at_ : Int)] ?_ ?_ HZ3.out ?_ ?_ ?_ ?_); exact rfl; exact rfl; exact rfl; exact rfl; exact leaf_row; exact el_one x0 2 at_))
          simp only [Exit.jump]
          refine bodyPost_ret (res_cell_slot (cs := #[.bool (bitB x0 0), .bool (bitB x0 1), .bool (bitB x0 2), .bool (bitB x0 3), .bool (bitB x0 4), .bool (bitB x0 5), .bool (bitB x0 6), .bool (bitB x0 7), .int .i64 ((x0 : Int) / 256 % 4), .int .u64 ((x0 : Int) / 1024 % 17592186044416), .int .i64 (2 : Int), .int .u64 (at_ : Int)]) (v := .int .i64 0) rfl _ _ (W.heap.size + 1) 98 rfl rfl (HZ3.out.setRow _) leaf_row) rfl ⟨?_, below_setRow HB3'.out (Nat.le_succ _) _⟩
          rw [HFE.out]
          rfl
        · rw [hev]
          have HFE : Hid (fd = .err 51) := Lib.hid (by rw [HOK.out, if_pos hlf, if_neg (by rw [hev]; decide)])
          go_wp2_with (first | ((with_reducible refine wl_load 96 (.tmp 9) rfl ?_ (W.heap.size + 1 + 1) 0 #[.bool (bitB x0 0), .bool (bitB x0 1), .bool (bitB x0 2), .bool (bitB x0 3), .bool (bitB x0 4), .bool (bitB x0 5), .bool (bitB x0 6), .bool (bitB x0 7), .int .i64 ((x0 : Int) / 256 % 4), .int .u64 ((x0 : Int) / 1024 % 17592186044416)] ?_ HPB3.out.range ?_ ?_); exact rfl; exact rfl; exact pte_row))
          refine (leafx_any x0 _).mono ?_
          rintro e w4 ⟨rfl, hb4⟩
          rw [hlf]
          have HZ4 := Lib.hid (HZ3.out.below hb4 HZ3.out.lt)
          have HB4 := Lib.hid (HB3'.out.trans (hb4.mono HB3'.out.size))
          clear hb4 hc9 hlf hev
          go_wp2_with (first | ((with_reducible refine wl_store 98 (.tmp 6) (.tmp 70) rfl ?_ (W.heap.size + 1) 98 #[.bool false, .bool false, .bool false, .bool false, .bool false, .bool false, .bool false, .bool false, .int .i64 0, .int .u64 0, .int .i64 0, .int .u64 0] #[.bool false, .bool false, .bool false, .bool false, .bool false, .bool false, .bool false, .bool false, .int .i64 0, .int .u64 0, .int .i64 0, .int .u64 0] ?_ ?_ HZ4.out ?_ ?_ ?_ ?_); exact rfl; exact rfl; exact rfl; exact rfl; exact leaf_row; exact lzer_one))
          simp only [Exit.jump]
          refine bodyPost_ret (res_cell_slot (cs := #[.bool false, .bool false, .bool false, .bool false, .bool false, .bool false, .bool false, .bool false, .int .i64 0, .int .u64 0, .int .i64 0, .int .u64 0]) (v := .int .i64 51) rfl _ _ (W.heap.size + 1) 98 rfl rfl (HZ4.out.setRow _) leaf_row) rfl ⟨?_, below_setRow HB4.out (Nat.le_succ _) _⟩
          rw [HFE.out]
          rfl
      · rw [hlf]
        go_wp2_with (first | ((with_reducible refine wl_load 96 (.tmp 9) rfl ?_ (W.heap.size + 1 + 1) 0 #[.bool (bitB x0 0), .bool (bitB x0 1), .bool (bitB x0 2), .bool (bitB x0 3), .bool (bitB x0 4), .bool (bitB x0 5), .bool (bitB x0 6), .bool (bitB x0 7), .int .i64 ((x0 : Int) / 256 % 4), .int .u64 ((x0 : Int) / 1024 % 17592186044416)] ?_ HPB3.out.range ?_ ?_); exact rfl; exact rfl; exact pte_row))
        refine (leafx_any x0 _).mono ?_
        rintro e w4 ⟨rfl, hb4⟩
        rw [hlf]
        have HZ4 := Lib.hid (HZ3.out.below hb4 HZ3.out.lt)
        have HPB4 := Lib.hid (HPB3.out.below hb4 HPB3.out.lt)
        have HB4 := Lib.hid (HB3'.out.trans (hb4.mono HB3'.out.size))
        clear hb4 hc9
        go_wp2_with (first | ((with_reducible refine wl_load 96 (.tmp 9) rfl ?_ (W.heap.size + 1 + 1) 0 #[.bool (bitB x0 0), .bool (bitB x0 1), .bool (bitB x0 2), .bool (bitB x0 3), .bool (bitB x0 4), .bool (bitB x0 5), .bool (bitB x0 6), .bool (bitB x0 7), .int .i64 ((x0 : Int) / 256 % 4), .int .u64 ((x0 : Int) / 1024 % 17592186044416)] ?_ HPB4.out.range ?_ ?_); exact rfl; exact rfl; exact pte_row))
        refine (leadsx_any x0 2 (by decide) _).mono ?_
        rintro e w5 ⟨rfl, hb5⟩
        have HZ5 := Lib.hid (HZ4.out.below hb5 HZ4.out.lt)
        have HPB5 := Lib.hid (HPB4.out.below hb5 HPB4.out.lt)
        have HB5 := Lib.hid (HB4.out.trans (hb5.mono HB4.out.size))
        clear hb5
        rcases Bool.eq_false_or_eq_true (leadX x0 2) with hld | hld
        · rw [hld]
          have HFE : Hid (fd = nextF n S va ppn 2) := Lib.hid (by rw [HOK.out, if_neg (by rw [hlf]; decide), if_pos hld])
          have hs : ∀ W', Ext w5.drew W' → W'.cell? ⟨(W.heap.size + 1 + 1), 9, none⟩ = some (.int .u64 ((x0 : Int) / 1024 % 17592186044416)) := fun W' h => (h.cell HPB5.out.drew.lt).trans (HPB5.out.cell 9)
          have HWR : Hid (IntKind.i64.wrap 1 = ((1 : Nat) : Int)) := Lib.hid rfl
          clear hlf hld
          go_wp2_with fail
          refine wp_region_plan [(0, false), (1, false), (2, false), (3, false), (4, false), (5, false)] (by kernel_rfl) (by kernel_rfl) (fun _ d _ _ _ h => by cases d <;> exact h) ?_
          iterate 6 (refine plan_take (v := ?_) rfl (by kernel_rfl) ?_ ?_; rotate_left; (focus (intro w' hw'; try go_simp; try with_reducible rfl)); simp only [Act.put, List.setIfInBounds_toArray, List.set_cons_zero, List.set_cons_succ])
          refine plan_end ?_
          go_wp2_with fail
          go_step3
          rw [ppn_x, HWR.out]
          refine ⟨rfl, 1, ppnX x0, (W.heap.size + 1 + 1), fun i => ((#[.bool (bitB x0 0), .bool (bitB x0 1), .bool (bitB x0 2), .bool (bitB x0 3), .bool (bitB x0 4), .bool (bitB x0 5), .bool (bitB x0 6), .bool (bitB x0 7), .int .i64 ((x0 : Int) / 256 % 4), .int .u64 ((x0 : Int) / 1024 % 17592186044416)]) : Array Value).getD i undef, fr_intro _ rfl, by decide, Nat.lt_trans (ppnX_lt _) (by decide), ?_, HZ5.out.drew, HPB5.out.drew, HNE.out, HB5.out.drew⟩
          rw [HFE.out, HX0.out, ← HAX.out]
          rfl
        · rw [hld]
          have HFE : Hid (fd = .err 51) := Lib.hid (by rw [HOK.out, if_neg (by rw [hlf]; decide), if_neg (by rw [hld]; decide)])
          clear hlf hld
          go_wp2_with (first | ((with_reducible refine wl_store 98 (.tmp 6) (.tmp 70) rfl ?_ (W.heap.size + 1) 98 #[.bool false, .bool false, .bool false, .bool false, .bool false, .bool false, .bool false, .bool false, .int .i64 0, .int .u64 0, .int .i64 0, .int .u64 0] #[.bool false, .bool false, .bool false, .bool false, .bool false, .bool false, .bool false, .bool false, .int .i64 0, .int .u64 0, .int .i64 0, .int .u64 0] ?_ ?_ HZ5.out ?_ ?_ ?_ ?_); exact rfl; exact rfl; exact rfl; exact rfl; exact leaf_row; exact lzer_one))
          simp only [Exit.jump]
          refine bodyPost_ret (res_cell_slot (cs := #[.bool false, .bool false, .bool false, .bool false, .bool false, .bool false, .bool false, .bool false, .int .i64 0, .int .u64 0, .int .i64 0, .int .u64 0]) (v := .int .i64 51) rfl _ _ (W.heap.size + 1) 98 rfl rfl (HZ5.out.setRow _) leaf_row) rfl ⟨?_, below_setRow HB5.out (Nat.le_succ _) _⟩
          rw [HFE.out]
          rfl
    · have hV : entV n S at_ = pteZ := if_neg hE
      rw [hV]
      have HFE : Hid (fd = .err (entE n S at_)) := Lib.hid (by rw [HEQ.out, ← HAX.out]; exact fdAt_err (by rw [HAX.out]; exact hE))
      have hne : (entE n S at_ != 0) = true := by simpa using hE
      clear hV hE
      generalize entE n S at_ = E at *
      go_wp2_with (first | ((with_reducible refine wl_store 96 (.tmp 9) (.tmp 41) rfl ?_ (W.heap.size + 1 + 1) 96 _ #[.bool false, .bool false, .bool false, .bool false, .bool false, .bool false, .bool false, .bool false, .int .i64 0, .int .u64 0] ?_ ?_ HPB1.out ?_ ?_ ?_ ?_); exact rfl; exact rfl; exact rfl; exact rfl; exact pte_row; exact zer_one) | ((with_reducible refine wl_store 98 (.tmp 6) (.tmp 46) rfl ?_ (W.heap.size + 1) 98 #[.bool false, .bool false, .bool false, .bool false, .bool false, .bool false, .bool false, .bool false, .int .i64 0, .int .u64 0, .int .i64 0, .int .u64 0] #[.bool false, .bool false, .bool false, .bool false, .bool false, .bool false, .bool false, .bool false, .int .i64 0, .int .u64 0, .int .i64 0, .int .u64 0] ?_ ?_ (HZ2.out _) ?_ ?_ ?_ ?_); exact rfl; exact rfl; exact rfl; exact rfl; exact leaf_row; exact lzer_one))
      simp only [Exit.jump]
      refine bodyPost_ret (res_cell_slot (cs := #[.bool false, .bool false, .bool false, .bool false, .bool false, .bool false, .bool false, .bool false, .int .i64 0, .int .u64 0, .int .i64 0, .int .u64 0]) (v := .int .i64 E) rfl _ _ (W.heap.size + 1) 98 rfl rfl ((HZ2.out _).setRow _) leaf_row) rfl ⟨?_, below_setRow (HB2.out _) (Nat.le_succ _) _⟩
      rw [HFE.out]
      rfl
  · rintro a w ⟨l, t, pb, c, ⟨x, rfl⟩, hl, ht, hfd, hz, hpb, hne, hb⟩
    clear HA HP HC
    have HL := Lib.hid hl
    have HT := Lib.hid ht
    clear HF
    have HF := Lib.hid hfd
    have HZ := Lib.hid hz
    have HPB := Lib.hid hpb
    have HNE := Lib.hid hne
    have HB := Lib.hid hb
    have HMW := Lib.hid (HM.out.below hb)
    clear hl ht hfd hz hpb hne hb
    go_wp2_with fail
    refine (index_any va l _ HV.out).mono ?_
    rintro e w' ⟨rfl, rfl⟩
    go_wp2_with fail
    rw [show IntKind.u64.wrap (IntKind.u64.wrap ((t : Int) * 4096) + IntKind.u64.wrap (8 * IntKind.u64.wrap ((indexV va l : Nat) : Int))) = ((atX va t l : Nat) : Int) from at_wrap va t l]
    have HEQ := Lib.hid (HF.out.trans (find_eq n S va l t))
    generalize hatx : atX va t l = at_ at *
    have HAT : Hid (at_ < 18446744073709551616) := Lib.hid (by rw [← hatx]; exact atX_lt _ _ _)
    have HAX := Lib.hid hatx
    clear hatx
    refine (entry_any g n at_ F S _ HMW.out HAT.out).mono ?_
    rintro e w1 ⟨rfl, hb1⟩
    have HZ1 := Lib.hid (HZ.out.below hb1 HZ.out.lt)
    have HPB1 := Lib.hid (HPB.out.below hb1 HPB.out.lt)
    have HB1 := Lib.hid (HB.out.trans (hb1.mono HB.out.size))
    have HZ2 : Hid (∀ cs, Blkf (w1.setRow pb cs) (W.heap.size + 1) 98 (0, 0) #[.bool false, .bool false, .bool false, .bool false, .bool false, .bool false, .bool false, .bool false, .int .i64 0, .int .u64 0, .int .i64 0, .int .u64 0]) := Lib.hid fun cs => HZ1.out.setRow_far (by have := HNE.out; omega) cs
    have HB2 : Hid (∀ cs, Below W.heap.size W (w1.setRow pb cs)) := Lib.hid fun cs => below_setRow HB1.out (by have := HNE.out; omega) cs
    clear hb1
    by_cases hE : entE n S at_ = 0
    · have hV : entV n S at_ = entryV (ldR n S at_ 8) := if_pos hE
      rw [hV, hE]
      have hok := fdAt_ok (n := n) (S := S) (va := va) (l := l) (t := t) (k := nextF n S va t l) (by rw [HAX.out]; exact hE)
      rw [← HEQ.out, HAX.out] at hok
      obtain ⟨x0, hx0⟩ : ∃ x0, x0 = ldR n S at_ 8 := ⟨_, rfl⟩
      rw [← hx0] at hok ⊢
      have HOK := Lib.hid hok
      have HX0 := Lib.hid hx0
      clear hok hx0 hV hE
      have HPB2 := Lib.hid (HPB1.out.setRow (#[.bool (bitB x0 0), .bool (bitB x0 1), .bool (bitB x0 2), .bool (bitB x0 3), .bool (bitB x0 4), .bool (bitB x0 5), .bool (bitB x0 6), .bool (bitB x0 7), .int .i64 ((x0 : Int) / 256 % 4), .int .u64 ((x0 : Int) / 1024 % 17592186044416)]))
      have hp2 : ∀ W', Ext (w1.setRow pb (#[.bool (bitB x0 0), .bool (bitB x0 1), .bool (bitB x0 2), .bool (bitB x0 3), .bool (bitB x0 4), .bool (bitB x0 5), .bool (bitB x0 6), .bool (bitB x0 7), .int .i64 ((x0 : Int) / 256 % 4), .int .u64 ((x0 : Int) / 1024 % 17592186044416)])) W' → Blk W' pb 96 (#[.bool (bitB x0 0), .bool (bitB x0 1), .bool (bitB x0 2), .bool (bitB x0 3), .bool (bitB x0 4), .bool (bitB x0 5), .bool (bitB x0 6), .bool (bitB x0 7), .int .i64 ((x0 : Int) / 256 % 4), .int .u64 ((x0 : Int) / 1024 % 17592186044416)]) := fun W' h => HPB2.out.below h HPB2.out.lt
      go_wp2_with (first | ((with_reducible refine wl_store 96 (.tmp 9) (.tmp 41) rfl ?_ pb 96 _ #[.bool (bitB x0 0), .bool (bitB x0 1), .bool (bitB x0 2), .bool (bitB x0 3), .bool (bitB x0 4), .bool (bitB x0 5), .bool (bitB x0 6), .bool (bitB x0 7), .int .i64 ((x0 : Int) / 256 % 4), .int .u64 ((x0 : Int) / 1024 % 17592186044416)] ?_ ?_ HPB1.out ?_ ?_ ?_ ?_); exact rfl; exact rfl; exact rfl; exact rfl; exact pte_row; exact pte_one x0) | ((with_reducible refine wl_load 96 (.tmp 9) rfl ?_ pb 0 #[.bool (bitB x0 0), .bool (bitB x0 1), .bool (bitB x0 2), .bool (bitB x0 3), .bool (bitB x0 4), .bool (bitB x0 5), .bool (bitB x0 6), .bool (bitB x0 7), .int .i64 ((x0 : Int) / 256 % 4), .int .u64 ((x0 : Int) / 1024 % 17592186044416)] ?_ HPB2.out.range ?_ ?_); exact rfl; exact rfl; exact pte_row))
      refine (leafx_any x0 _).mono ?_
      rintro e w2 ⟨rfl, hb2⟩
      have HZ3 := Lib.hid ((HZ2.out _).below hb2 (HZ2.out _).lt)
      have HPB3 := Lib.hid (HPB2.out.below hb2 HPB2.out.lt)
      have HB3' := Lib.hid ((HB2.out _).trans (hb2.mono (HB2.out _).size))
      clear hb2 hp2
      have hc9 := HPB3.out.cell 9
      simp at hc9
      rcases Bool.eq_false_or_eq_true (leafX x0) with hlf | hlf
      · rw [hlf]
        go_wp2_with (first | ((with_reducible refine wl_load 96 (.tmp 9) rfl ?_ pb 0 #[.bool (bitB x0 0), .bool (bitB x0 1), .bool (bitB x0 2), .bool (bitB x0 3), .bool (bitB x0 4), .bool (bitB x0 5), .bool (bitB x0 6), .bool (bitB x0 7), .int .i64 ((x0 : Int) / 256 % 4), .int .u64 ((x0 : Int) / 1024 % 17592186044416)] ?_ HPB3.out.range ?_ ?_); exact rfl; exact rfl; exact pte_row))
        rw [ppn_x]
        refine (even_any (ppnX x0) l _ (Nat.lt_trans (ppnX_lt _) (by decide)) HL.out).mono ?_
        rintro e w3 ⟨rfl, rfl⟩
        rcases Bool.eq_false_or_eq_true (evenB (ppnX x0) l) with hev | hev
        · rw [hev]
          have HFE : Hid (fd = .leaf x0 l at_) := Lib.hid (by rw [HOK.out, if_pos hlf, if_pos hev])
          clear hlf hev
          go_wp2_with (first | ((with_reducible refine wl_load 96 (.tmp 9) rfl ?_ pb 0 #[.bool (bitB x0 0), .bool (bitB x0 1), .bool (bitB x0 2), .bool (bitB x0 3), .bool (bitB x0 4), .bool (bitB x0 5), .bool (bitB x0 6), .bool (bitB x0 7), .int .i64 ((x0 : Int) / 256 % 4), .int .u64 ((x0 : Int) / 1024 % 17592186044416)] ?_ HPB3.out.range ?_ ?_); exact rfl; exact rfl; exact pte_row) | ((with_reducible refine wl_store 98 (.tmp 6) (.tmp 60) rfl ?_ (W.heap.size + 1) 98 #[.bool false, .bool false, .bool false, .bool false, .bool false, .bool false, .bool false, .bool false, .int .i64 0, .int .u64 0, .int .i64 0, .int .u64 0] #[.bool (bitB x0 0), .bool (bitB x0 1), .bool (bitB x0 2), .bool (bitB x0 3), .bool (bitB x0 4), .bool (bitB x0 5), .bool (bitB x0 6), .bool (bitB x0 7), .int .i64 ((x0 : Int) / 256 % 4), .int .u64 ((x0 : Int) / 1024 % 17592186044416), .int .i64 (l : Int), .int .u64 (at_ : Int)] ?_ ?_ HZ3.out ?_ ?_ ?_ ?_); exact rfl; exact rfl; exact rfl; exact rfl; exact leaf_row; exact el_one x0 l at_))
          simp only [Exit.jump]
          refine bodyPost_ret (res_cell_slot (cs := #[.bool (bitB x0 0), .bool (bitB x0 1), .bool (bitB x0 2), .bool (bitB x0 3), .bool (bitB x0 4), .bool (bitB x0 5), .bool (bitB x0 6), .bool (bitB x0 7), .int .i64 ((x0 : Int) / 256 % 4), .int .u64 ((x0 : Int) / 1024 % 17592186044416), .int .i64 (l : Int), .int .u64 (at_ : Int)]) (v := .int .i64 0) rfl _ _ (W.heap.size + 1) 98 rfl rfl (HZ3.out.setRow _) leaf_row) rfl ⟨?_, below_setRow HB3'.out (Nat.le_succ _) _⟩
          rw [HFE.out]
          rfl
        · rw [hev]
          have HFE : Hid (fd = .err 51) := Lib.hid (by rw [HOK.out, if_pos hlf, if_neg (by rw [hev]; decide)])
          go_wp2_with (first | ((with_reducible refine wl_load 96 (.tmp 9) rfl ?_ pb 0 #[.bool (bitB x0 0), .bool (bitB x0 1), .bool (bitB x0 2), .bool (bitB x0 3), .bool (bitB x0 4), .bool (bitB x0 5), .bool (bitB x0 6), .bool (bitB x0 7), .int .i64 ((x0 : Int) / 256 % 4), .int .u64 ((x0 : Int) / 1024 % 17592186044416)] ?_ HPB3.out.range ?_ ?_); exact rfl; exact rfl; exact pte_row))
          refine (leafx_any x0 _).mono ?_
          rintro e w4 ⟨rfl, hb4⟩
          rw [hlf]
          have HZ4 := Lib.hid (HZ3.out.below hb4 HZ3.out.lt)
          have HB4 := Lib.hid (HB3'.out.trans (hb4.mono HB3'.out.size))
          clear hb4 hc9 hlf hev
          go_wp2_with (first | ((with_reducible refine wl_store 98 (.tmp 6) (.tmp 70) rfl ?_ (W.heap.size + 1) 98 #[.bool false, .bool false, .bool false, .bool false, .bool false, .bool false, .bool false, .bool false, .int .i64 0, .int .u64 0, .int .i64 0, .int .u64 0] #[.bool false, .bool false, .bool false, .bool false, .bool false, .bool false, .bool false, .bool false, .int .i64 0, .int .u64 0, .int .i64 0, .int .u64 0] ?_ ?_ HZ4.out ?_ ?_ ?_ ?_); exact rfl; exact rfl; exact rfl; exact rfl; exact leaf_row; exact lzer_one))
          simp only [Exit.jump]
          refine bodyPost_ret (res_cell_slot (cs := #[.bool false, .bool false, .bool false, .bool false, .bool false, .bool false, .bool false, .bool false, .int .i64 0, .int .u64 0, .int .i64 0, .int .u64 0]) (v := .int .i64 51) rfl _ _ (W.heap.size + 1) 98 rfl rfl (HZ4.out.setRow _) leaf_row) rfl ⟨?_, below_setRow HB4.out (Nat.le_succ _) _⟩
          rw [HFE.out]
          rfl
      · rw [hlf]
        go_wp2_with (first | ((with_reducible refine wl_load 96 (.tmp 9) rfl ?_ pb 0 #[.bool (bitB x0 0), .bool (bitB x0 1), .bool (bitB x0 2), .bool (bitB x0 3), .bool (bitB x0 4), .bool (bitB x0 5), .bool (bitB x0 6), .bool (bitB x0 7), .int .i64 ((x0 : Int) / 256 % 4), .int .u64 ((x0 : Int) / 1024 % 17592186044416)] ?_ HPB3.out.range ?_ ?_); exact rfl; exact rfl; exact pte_row))
        refine (leafx_any x0 _).mono ?_
        rintro e w4 ⟨rfl, hb4⟩
        rw [hlf]
        have HZ4 := Lib.hid (HZ3.out.below hb4 HZ3.out.lt)
        have HPB4 := Lib.hid (HPB3.out.below hb4 HPB3.out.lt)
        have HB4 := Lib.hid (HB3'.out.trans (hb4.mono HB3'.out.size))
        clear hb4 hc9
        go_wp2_with (first | ((with_reducible refine wl_load 96 (.tmp 9) rfl ?_ pb 0 #[.bool (bitB x0 0), .bool (bitB x0 1), .bool (bitB x0 2), .bool (bitB x0 3), .bool (bitB x0 4), .bool (bitB x0 5), .bool (bitB x0 6), .bool (bitB x0 7), .int .i64 ((x0 : Int) / 256 % 4), .int .u64 ((x0 : Int) / 1024 % 17592186044416)] ?_ HPB4.out.range ?_ ?_); exact rfl; exact rfl; exact pte_row))
        refine (leadsx_any x0 l HL.out _).mono ?_
        rintro e w5 ⟨rfl, hb5⟩
        have HZ5 := Lib.hid (HZ4.out.below hb5 HZ4.out.lt)
        have HPB5 := Lib.hid (HPB4.out.below hb5 HPB4.out.lt)
        have HB5 := Lib.hid (HB4.out.trans (hb5.mono HB4.out.size))
        clear hb5
        rcases Bool.eq_false_or_eq_true (leadX x0 l) with hld | hld
        · rw [hld]
          have HFE : Hid (fd = nextF n S va t l) := Lib.hid (by rw [HOK.out, if_neg (by rw [hlf]; decide), if_pos hld])
          have hs : ∀ W', Ext w5.drew W' → W'.cell? ⟨pb, 9, none⟩ = some (.int .u64 ((x0 : Int) / 1024 % 17592186044416)) := fun W' h => (h.cell HPB5.out.drew.lt).trans (HPB5.out.cell 9)
          obtain ⟨m, rfl⟩ : ∃ m, l = m + 1 := lead_pos hld
          have HWR : Hid (IntKind.i64.wrap (m : Int) = (m : Int)) := Lib.hid (IntWalk.i64_in _ (by have := HL.out; omega))
          clear hlf hld
          go_wp2_with fail
          refine wp_region_plan [(0, false), (1, false), (2, false), (3, false), (4, false), (5, false)] (by kernel_rfl) (by kernel_rfl) (fun _ d _ _ _ h => by cases d <;> exact h) ?_
          iterate 6 (refine plan_take (v := ?_) rfl (by kernel_rfl) ?_ ?_; rotate_left; (focus (intro w' hw'; try go_simp; try with_reducible rfl)); simp only [Act.put, List.setIfInBounds_toArray, List.set_cons_zero, List.set_cons_succ])
          refine plan_end ?_
          go_wp2_with fail
          go_step3
          rw [ppn_x, HWR.out]
          refine ⟨rfl, ⟨m, ppnX x0, pb, fun i => ((#[.bool (bitB x0 0), .bool (bitB x0 1), .bool (bitB x0 2), .bool (bitB x0 3), .bool (bitB x0 4), .bool (bitB x0 5), .bool (bitB x0 6), .bool (bitB x0 7), .int .i64 ((x0 : Int) / 256 % 4), .int .u64 ((x0 : Int) / 1024 % 17592186044416)]) : Array Value).getD i undef, fr_intro _ rfl, by have := HL.out; omega, Nat.lt_trans (ppnX_lt _) (by decide), ?_, HZ5.out.drew, HPB5.out.drew, HNE.out, HB5.out.drew⟩, ?_⟩
          rw [HFE.out, HX0.out, ← HAX.out]
          rfl
          simp [intOf]
        · rw [hld]
          have HFE : Hid (fd = .err 51) := Lib.hid (by rw [HOK.out, if_neg (by rw [hlf]; decide), if_neg (by rw [hld]; decide)])
          clear hlf hld
          go_wp2_with (first | ((with_reducible refine wl_store 98 (.tmp 6) (.tmp 70) rfl ?_ (W.heap.size + 1) 98 #[.bool false, .bool false, .bool false, .bool false, .bool false, .bool false, .bool false, .bool false, .int .i64 0, .int .u64 0, .int .i64 0, .int .u64 0] #[.bool false, .bool false, .bool false, .bool false, .bool false, .bool false, .bool false, .bool false, .int .i64 0, .int .u64 0, .int .i64 0, .int .u64 0] ?_ ?_ HZ5.out ?_ ?_ ?_ ?_); exact rfl; exact rfl; exact rfl; exact rfl; exact leaf_row; exact lzer_one))
          simp only [Exit.jump]
          refine bodyPost_ret (res_cell_slot (cs := #[.bool false, .bool false, .bool false, .bool false, .bool false, .bool false, .bool false, .bool false, .int .i64 0, .int .u64 0, .int .i64 0, .int .u64 0]) (v := .int .i64 51) rfl _ _ (W.heap.size + 1) 98 rfl rfl (HZ5.out.setRow _) leaf_row) rfl ⟨?_, below_setRow HB5.out (Nat.le_succ _) _⟩
          rw [HFE.out]
          rfl
    · have hV : entV n S at_ = pteZ := if_neg hE
      rw [hV]
      have HFE : Hid (fd = .err (entE n S at_)) := Lib.hid (by rw [HEQ.out, ← HAX.out]; exact fdAt_err (by rw [HAX.out]; exact hE))
      have hne : (entE n S at_ != 0) = true := by simpa using hE
      clear hV hE
      generalize entE n S at_ = E at *
      go_wp2_with (first | ((with_reducible refine wl_store 96 (.tmp 9) (.tmp 41) rfl ?_ pb 96 _ #[.bool false, .bool false, .bool false, .bool false, .bool false, .bool false, .bool false, .bool false, .int .i64 0, .int .u64 0] ?_ ?_ HPB1.out ?_ ?_ ?_ ?_); exact rfl; exact rfl; exact rfl; exact rfl; exact pte_row; exact zer_one) | ((with_reducible refine wl_store 98 (.tmp 6) (.tmp 46) rfl ?_ (W.heap.size + 1) 98 #[.bool false, .bool false, .bool false, .bool false, .bool false, .bool false, .bool false, .bool false, .int .i64 0, .int .u64 0, .int .i64 0, .int .u64 0] #[.bool false, .bool false, .bool false, .bool false, .bool false, .bool false, .bool false, .bool false, .int .i64 0, .int .u64 0, .int .i64 0, .int .u64 0] ?_ ?_ (HZ2.out _) ?_ ?_ ?_ ?_); exact rfl; exact rfl; exact rfl; exact rfl; exact leaf_row; exact lzer_one))
      simp only [Exit.jump]
      refine bodyPost_ret (res_cell_slot (cs := #[.bool false, .bool false, .bool false, .bool false, .bool false, .bool false, .bool false, .bool false, .int .i64 0, .int .u64 0, .int .i64 0, .int .u64 0]) (v := .int .i64 E) rfl _ _ (W.heap.size + 1) 98 rfl rfl ((HZ2.out _).setRow _) leaf_row) rfl ⟨?_, below_setRow (HB2.out _) (Nat.le_succ _) _⟩
      rw [HFE.out]
      rfl
end Go.Proofs.YtophcgbddccpeaaGreat

/- Find: all; Place. -/
namespace Go.Proofs.YtophcgbddccpeaaGreat
open Go.RowKit

def leafZ : Value := .agg #[.bool false, .bool false, .bool false, .bool false, .bool false, .bool false, .bool false, .bool false, .int .i64 0, .int .u64 0, .int .i64 0, .int .u64 0]
theorem find_off (p : Option Addr) (va : Nat) (asid ppn : Int) (W : World) (hp : p ≠ none) :
    Calls Tryz.prog 78 #[.pointer p, .agg #[.bool false, .int .i64 asid, .int .u64 ppn], .int .u64 (va : Int)] W fun e w' => e = .returned (.tuple #[leafZ, .int .i64 2]) ∧ Below W.heap.size W w' := by
  obtain ⟨p, rfl⟩ := Option.ne_none_iff_exists'.1 hp
  clear hp
  go_enter Tryz.func78, Tryz.ntmps78
  go_wp2_with fail
  go_step3
  go_wp2_with fail
  simp only [Exit.noGoto]
  refine bodyPost_ret (v := .tuple #[leafZ, .int .i64 2]) (by simp [leafZ, results, Tryz.results78, go_sem]) rfl ⟨rfl, by go_grown⟩
theorem find_nil (va : Nat) (on : Bool) (asid ppn : Int) (W : World) :
    Calls Tryz.prog 78 #[.pointer none, .agg #[.bool on, .int .i64 asid, .int .u64 ppn], .int .u64 (va : Int)] W fun e w' => e = .returned (.tuple #[leafZ, .int .i64 1]) ∧ Below W.heap.size W w' := by
  go_enter Tryz.func78, Tryz.ntmps78
  go_wp2_with fail
  go_step3
  go_wp2_with fail
  simp only [Exit.noGoto]
  refine bodyPost_ret (v := .tuple #[leafZ, .int .i64 1]) (by simp [leafZ, results, Tryz.results78, go_sem]) rfl ⟨rfl, by go_grown⟩
theorem find_non (p : Option Addr) (va : Nat) (asid ppn : Int) (W : World) (hp : p ≠ none) (hv : va < 18446744073709551616) (hc : canonB va = false) :
    Calls Tryz.prog 78 #[.pointer p, .agg #[.bool true, .int .i64 asid, .int .u64 ppn], .int .u64 (va : Int)] W fun e w' => e = .returned (.tuple #[leafZ, .int .i64 51]) ∧ Below W.heap.size W w' := by
  obtain ⟨p, rfl⟩ := Option.ne_none_iff_exists'.1 hp
  clear hp
  have HV := Lib.hid hv
  have HC := Lib.hid hc
  clear hv hc
  go_enter Tryz.func78, Tryz.ntmps78
  go_wp2_with fail
  go_step3
  go_wp2_with fail
  refine (canon_any va _ HV.out).mono ?_
  rintro e w' ⟨rfl, rfl⟩
  rw [HC.out]
  go_wp2_with fail
  simp only [Exit.noGoto]
  refine bodyPost_ret (v := .tuple #[leafZ, .int .i64 51]) (by simp [leafZ, results, Tryz.results78, go_sem]) rfl ⟨rfl, by go_grown⟩
/-- What Find says, of any satp and any address. -/
theorem Find_any (g n va ppn : Nat) (asid : Int) (on : Bool) (F : Nat → Prop) (S : Nat → List Nat) (W : World) (h : Mem W g F n S) (hv : va < 18446744073709551616) (hp : ppn < 18446744073709551616) :
    Calls Tryz.prog 78 #[.pointer (some ⟨g, 0, none⟩), .agg #[.bool on, .int .i64 asid, .int .u64 (ppn : Int)], .int .u64 (va : Int)] W fun e w' =>
      e = .returned (.tuple #[fdV (findW n S on ppn va), .int .i64 (fdE (findW n S on ppn va))]) ∧ Below W.heap.size W w' := by
  unfold findW
  cases on with
  | false => exact find_off _ va asid ppn W (by simp)
  | true =>
    cases hc : canonB va with
    | false => exact find_non _ va asid ppn W (by simp) hv hc
    | true => exact find_any g n va ppn asid true F S W h hv hp rfl hc
theorem place_leaf (x l a va : Nat) (W : World) (hv : va < 18446744073709551616) :
    Calls Tryz.prog 55 #[fdV (.leaf x l a), .int .u64 (va : Int)] W fun e w' => e = .returned (.int .u64 ((joinV (ppnX x) va (l : Int) : Nat) : Int)) ∧ Below W.heap.size W w' := by
  have HV := Lib.hid hv
  clear hv
  unfold fdV
  go_enter Tryz.func55, Tryz.ntmps55
  go_wp2_with fail
  rw [ppn_x]
  refine (join_any (ppnX x) va (l : Int) _ (Nat.lt_trans (ppnX_lt _) (by decide)) HV.out).mono ?_
  rintro e w' ⟨rfl, rfl⟩
  go_wp2_with fail
  go_ret
  exact ⟨rfl, by go_grown⟩
end Go.Proofs.YtophcgbddccpeaaGreat
