/- CheckTurns. -/
import Derived.Test.YtdgblhaihfccfaaCheckH
namespace Go.Proofs.Ytdgblhaihfccfaa
open Go.RowKit

theorem turnL_length (l : List Nat) (n : Int) : (turnL l n).length = l.length := by
  unfold turnL; split <;> simp
theorem turnL_lt {l : List Nat} (h : ∀ i : Nat, l.getD i 0 < 256) (n : Int) (i : Nat) : (turnL l n).getD i 0 < 256 := by
  unfold turnL
  split
  · rename_i hn
    rw [List.getD_eq_getElem?_getD, List.getElem?_set]
    split
    · split
      · have h8 : (n % 8).toNat < 8 := by omega
        have h2 : 2 ^ (n % 8).toNat < 256 := Nat.lt_of_lt_of_le (Nat.pow_lt_pow_right (by decide) h8) (by decide)
        exact Nat.xor_lt_two_pow (n := 8) (h _) h2
      · decide
    · rw [← List.getD_eq_getElem?_getD]; exact h i
  · exact h i
theorem getD_set_self (l : List Nat) (k v : Nat) (h : k < l.length) : (l.set k v).getD k 0 = v := by
  rw [List.getD_eq_getElem?_getD, List.getElem?_set_self h]; rfl
theorem turnL_twice (l : List Nat) (n : Int) : turnL (turnL l n) n = l := by
  by_cases hn : 0 ≤ n ∧ n / 8 < l.length
  · have hk : (n / 8).toNat < l.length := by omega
    have e : turnL l n = l.set (n / 8).toNat (l.getD (n / 8).toNat 0 ^^^ 2 ^ (n % 8).toNat) := if_pos hn
    have h2 : turnL (turnL l n) n = (turnL l n).set (n / 8).toNat ((turnL l n).getD (n / 8).toNat 0 ^^^ 2 ^ (n % 8).toNat) := if_pos (by rw [turnL_length]; exact hn)
    rw [h2, e, List.set_set, getD_set_self _ _ _ hk]
    rw [Nat.xor_assoc, Nat.xor_self, Nat.xor_zero]
    apply List.ext_getElem?
    intro i
    rw [List.getElem?_set]
    split
    · rename_i hi
      subst hi
      rw [List.getD_eq_getElem?_getD, List.getElem?_eq_getElem hk]; rfl
    · rfl
  · have e : turnL l n = l := if_neg hn
    rw [e, e]
theorem xor_ne (x p : Nat) (hp : 0 < p) : x ^^^ p ≠ x := by
  intro h
  have : x ^^^ (x ^^^ p) = x ^^^ x := by rw [h]
  rw [← Nat.xor_assoc, Nat.xor_self, Nat.zero_xor] at this
  omega
/-- Of sealed bytes of which one bit is turned nothing is opened. -/
theorem turned_open (l : List Nat) (hl : ∀ i : Nat, l.getD i 0 < 256) (n : Int) (hn : 0 ≤ n ∧ n / 8 < (l ++ bytesOf (sumV l) 4).length) : openB (turnL (l ++ bytesOf (sumV l) 4) n) = false := by
  have hs : ∀ i : Nat, (l ++ bytesOf (sumV l) 4).getD i 0 < 256 := append_lt hl (bytesOf_lt _ _)
  have hlen : (l ++ bytesOf (sumV l) 4).length = l.length + 4 := by rw [List.length_append, bytes4]
  have e : turnL (l ++ bytesOf (sumV l) 4) n = (l ++ bytesOf (sumV l) 4).set (n / 8).toNat ((l ++ bytesOf (sumV l) 4).getD (n / 8).toNat 0 ^^^ 2 ^ (n % 8).toNat) := if_pos hn
  have ht := turnL_lt hs n
  have htl := turnL_length (l ++ bytesOf (sumV l) 4) n
  rw [openB_eq _ ht (by rw [htl, hlen]; omega), htl, hlen, Nat.add_sub_cancel]
  rw [decide_eq_false_iff_not]
  intro h
  have hp : 0 < 2 ^ (n % 8).toNat := Nat.two_pow_pos _
  rw [e] at h
  have hx : ∀ k, (l ++ bytesOf (sumV l) 4).getD k 0 ^^^ 2 ^ (n % 8).toNat ≠ (l ++ bytesOf (sumV l) 4).getD k 0 := fun k => xor_ne _ _ hp
  have htk := ht (n / 8).toNat
  rw [e, getD_set_self _ _ _ (by omega)] at htk
  generalize hv : (l ++ bytesOf (sumV l) 4).getD (n / 8).toNat 0 ^^^ 2 ^ (n % 8).toNat = v at h htk
  rcases Nat.lt_or_ge (n / 8).toNat l.length with hk | hk
  · -- among the bytes themselves
    rw [List.set_append_left _ _ hk] at h
    rw [List.take_left' (by simp), List.drop_left' (by simp)] at h
    have h1 : sumV (l.set (n / 8).toNat v) = sumV l := by
      have := congrArg leNat h
      rwa [leNat_bytes4 _ (sum_lt _), leNat_bytes4 _ (sum_lt _)] at this
    have hg : l.getD (n / 8).toNat 0 = (l ++ bytesOf (sumV l) 4).getD (n / 8).toNat 0 := by
      rw [List.getD_eq_getElem?_getD, List.getD_eq_getElem?_getD, List.getElem?_append_left hk]
    have hset : ∀ i : Nat, (l.set (n / 8).toNat v).getD i 0 < 256 := fun i => by
      rw [List.getD_eq_getElem?_getD, List.getElem?_set]
      split
      · exact htk
      · rw [← List.getD_eq_getElem?_getD]; exact hl i
    have hst : stateV (l.set (n / 8).toNat v) = stateV l := by
      have a1 := state_lt _ hset
      have a2 := state_lt l hl
      unfold sumV at h1
      omega
    have s1 : l.set (n / 8).toNat v = l.take (n / 8).toNat ++ v :: l.drop ((n / 8).toNat + 1) := List.set_eq_take_append_cons_drop.trans (if_pos hk)
    have s2 : l = l.take (n / 8).toNat ++ l.getD (n / 8).toNat 0 :: l.drop ((n / 8).toNat + 1) := by
      rw [List.getD_eq_getElem?_getD, List.getElem?_eq_getElem hk]
      simp
    rw [s1] at hst
    have s3 : stateV l = stateV (l.take (n / 8).toNat ++ l.getD (n / 8).toNat 0 :: l.drop ((n / 8).toNat + 1)) := congrArg stateV s2
    rw [s3] at hst
    have := state_turn _ _ _ _ (fun i => getD_take_lt l _ i hl) (fun i => getD_drop_lt l _ hl i) htk (hl _) hst
    rw [← hv, hg] at this
    exact hx _ this
  · -- in the sum
    rw [List.set_append_right _ _ hk] at h
    rw [List.take_left' rfl, List.drop_left' rfl] at h
    have hk4 : (n / 8).toNat - l.length < 4 := by omega
    have h1 := congrArg (fun q => q.getD ((n / 8).toNat - l.length) 0) h
    rw [getD_set_self _ _ _ (by rw [bytes4]; exact hk4)] at h1
    have hg : (l ++ bytesOf (sumV l) 4).getD (n / 8).toNat 0 = (bytesOf (sumV l) 4).getD ((n / 8).toNat - l.length) 0 := by
      rw [List.getD_eq_getElem?_getD, List.getD_eq_getElem?_getD, List.getElem?_append_right hk]
    have := hx (n / 8).toNat
    rw [hv, hg, h1] at this
    exact this rfl

theorem turn_at (A : Option Addr) (l : List Nat) (m c : Nat) (n : Int) (W : World) (hl : l.length = m) (hn : m ≤ 140737488355328) (hB : Bts W A l) (hw : -9223372036854775808 ≤ n ∧ n < 9223372036854775808) :
    Calls Try.prog 14 #[.slice A m c, .int .i64 n] W (RetOwn (turnL l n) W) := by
  subst hl; exact turn_any A l c n W hn hB hw
theorem rturn_at (A : Option Addr) (l : List Nat) (m c : Nat) (n : Int) (W : World) (hl : l.length = m) (hn : m ≤ 140737488355328) (hB : Bts W A l) (hw : -9223372036854775808 ≤ n ∧ n < 9223372036854775808) :
    Calls Try.prog 15 #[.slice A m c, .int .i64 n] W (RetOwn (turnL l n) W) := by
  subst hl; exact rturn_any A l c n W hn hB hw
theorem own_cap {w : World} {base n : Nat} {e : TypeId} {A : Option Addr} {m c : Nat} {xs : List Value} (h : w.ownsRow base e 1 (.slice A m c) n xs) : n ≤ c := by
  rcases h.2 with ⟨_, h2⟩ | ⟨g, cap, cur, h, _, _, h3, _⟩
  · omega
  · injection h with _ _ h; omega
theorem i64_bounds {n : Int} (h : (Lit.int .i64 n).wf = true) : -9223372036854775808 ≤ n ∧ n < 9223372036854775808 := i64_of_wf h
namespace Law
set_option maxHeartbeats 8000000 in
theorem CheckTurns (A : Option Addr) (len c : Nat) (z : List Int) (n : Int) (W : World) (hz : IsRow .u8 W A len c z) (_ : 1 * c ≤ 140737488351232) (hn : (Lit.int .i64 n).wf = true) :
    Calls Try.prog 6 #[.slice A len c, .int .i64 n] W fun e w' => e = .returned (.bool true) ∧ Below W.heap.size W w' := by
  obtain ⟨l, rfl, hB, hlm⟩ := bts_of_row hz
  clear hz
  have HB := Lib.hid hB
  have HN := Lib.hid (i64_bounds hn)
  clear hB hn
  by_cases hbig : 3000 < l.length
  · have e1 : decide ((3000 : Int) < (l.length : Int)) = true := by simp; omega
    go_enter Try.func6, Try.ntmps6
    go_wp2_with fail
    refine (first_ok _).mono ?_
    rintro e w1 ⟨rfl, hb⟩
    have HB1 := Lib.hid hb
    clear hb
    go_wp2
    go_ret
    exact ⟨rfl, HB1.out⟩
  · have e1 : decide ((3000 : Int) < (l.length : Int)) = false := by simp; omega
    have hl : l.length ≤ 3000 := by omega
    clear hbig
    have HS := Lib.hid (sealed_open l HB.out.1)
    have HST := Lib.hid (sealed_take l)
    have HSL := Lib.hid (append_lt HB.out.1 (bytesOf_lt (sumV l) 4))
    have HTU := Lib.hid (fun h => turned_open l HB.out.1 n h)
    have hlen : (l ++ bytesOf (sumV l) 4).length = l.length + 4 := by rw [List.length_append, bytes4]
    have HLEN := Lib.hid hlen
    have hstr : ((strB l).toList == (strB l).toList) = true := by simp
    generalize hs : l ++ bytesOf (sumV l) 4 = s at HS HST HSL HTU HLEN hlen
    have HSE := Lib.hid hs
    clear hs
    have HTL := Lib.hid ((turnL_length s n).trans hlen)
    have HTT := Lib.hid (turnL_twice s n)
    have HTB := Lib.hid (fun i => turnL_lt HSL.out n i)
    clear hlen
    rw [HLEN.out] at HTU HST
    go_enter Try.func6, Try.ntmps6
    go_wp2_with fail
    refine (first_ok _).mono ?_
    rintro e w1 ⟨rfl, hb⟩
    have HB1 := Lib.hid hb
    have HL1 := Lib.hid (bts_below HB.out hb)
    clear hb
    go_wp2_with fail
    refine (seal_any A l c _ (by omega) HL1.out).mono ?_
    rw [HSE.out]
    rintro e w2 ⟨v2, rfl, hown, hb⟩
    obtain ⟨A2, c2, rfl, hB2, hA2⟩ := bts_own hown HSL.out rfl
    have hc2 := own_cap hown
    rw [HLEN.out] at hc2 ⊢
    have HB2 := Lib.hid (HB1.out.trans (hb.mono HB1.out.size))
    have HL2 := Lib.hid (bts_below HL1.out hb)
    have HS2 := Lib.hid hB2
    clear hown hb hB2 hA2
    go_wp2_with fail
    refine (open_yes A2 s _ c2 _ HLEN.out (by omega) hc2 HS2.out HS.out).mono ?_
    rintro e w3 ⟨v3, rfl, hown, hb⟩
    rw [HST.out, Nat.add_sub_cancel] at hown
    obtain ⟨A3, c3, rfl, hB3, hA3⟩ := bts_own hown HB.out.1 rfl
    have HB3 := Lib.hid (HB2.out.trans (hb.mono HB2.out.size))
    have HL3 := Lib.hid (bts_below HL2.out hb)
    have HS3 := Lib.hid (bts_below HS2.out hb)
    have hcv1 := conv_bts (c := c3) hB3 rfl
    have hcv2 := conv_bts (c := c) HL3.out rfl
    clear hown hb hB3 hA3
    go_wp2_with fail
    clear hcv1 hcv2
    refine (turn_at A2 s _ c2 n _ HLEN.out (by omega) HS3.out HN.out).mono ?_
    rintro e w4 ⟨v4, rfl, hown, hb⟩
    obtain ⟨A4, c4, rfl, hB4, hA4⟩ := bts_own hown HTB.out rfl
    have hc4 := own_cap hown
    rw [HTL.out] at hc4 ⊢
    have HB4 := Lib.hid (HB3.out.trans (hb.mono HB3.out.size))
    have HS4 := Lib.hid (bts_below HS3.out hb)
    have HT4 := Lib.hid hB4
    clear hown hb hB4 hA4
    go_wp2_with fail
    have hcv : ∀ W', Ext w4.drew W' → (convert 22 9 (.slice A4 (l.length + 4) c4)).run Try.prog W' = .ok (.string (strB (turnL s n))) W' := fun W' h => conv_bts (bts_ext HT4.out h) HTL.out
    refine wp_region_plan [(0, false), (1, false), (2, false), (3, false), (4, true), (5, false), (6, false)] (by kernel_rfl) (by kernel_rfl) (fun _ d _ _ _ h => by cases d <;> exact h) ?_
    iterate 4 (refine plan_take (v := ?_) rfl (by kernel_rfl) ?_ ?_; rotate_left; (focus (intro w' hw'; go_simp; try with_reducible rfl)); simp only [Act.put, List.setIfInBounds_toArray, List.set_cons_zero, List.set_cons_succ])
    clear hcv
    refine plan_call rfl (by kernel_rfl) (by go_simp; exact ⟨rfl, rfl⟩) ?_
    refine (rturn_at A2 s _ c2 n w4.drew HLEN.out (by omega) (bts_ext HS4.out (Ext.refl _)) HN.out).mono ?_
    rintro e w5 ⟨v5, rfl, hown, hb⟩
    obtain ⟨A5, c5, rfl, hB5, hA5⟩ := bts_own hown HTB.out rfl
    rw [HTL.out]
    have HB5 := Lib.hid (HB4.out.drew.trans (hb.mono HB4.out.size))
    have HS5 := Lib.hid (bts_ext HS4.out hb)
    have HT5 := Lib.hid (bts_ext HT4.out hb)
    have hcv : ∀ W', Ext w5 W' → (convert 22 9 (.slice A5 (l.length + 4) c5)).run Try.prog W' = .ok (.string (strB (turnL s n))) W' := fun W' h => conv_bts (bts_below hB5 h) HTL.out
    refine ⟨_, rfl, hb, ?_⟩
    simp only [Act.put, List.setIfInBounds_toArray, List.set_cons_zero, List.set_cons_succ]
    clear hown hb hB5 hA5
    iterate 2 (refine plan_take (v := ?_) rfl (by kernel_rfl) ?_ ?_; rotate_left; (focus (intro w' hw'; go_simp; try with_reducible rfl)); simp only [Act.put, List.setIfInBounds_toArray, List.set_cons_zero, List.set_cons_succ])
    clear hcv
    refine plan_end ?_
    by_cases ht : 0 ≤ n ∧ n / 8 < ((l.length + 4 : Nat) : Int)
    · have HNO := Lib.hid (HTU.out ht)
      obtain ⟨t0, t1⟩ := ht
      have f0 : decide (0 ≤ n) = true := by simpa using t0
      have f1 : decide (n / 8 < ((l.length : Int) + 4)) = true := by simp; omega
      have f2 : decide (n / 8 < ((l.length + 4 : Nat) : Int)) = true := by simp; omega
      have n1 : n ≤ 9223372036854775807 := by have := HN.out; omega
      go_wp2_with fail
      refine (open_no A4 (turnL s n) _ c4 _ HTL.out (by omega) hc4 HT5.out HNO.out).mono ?_
      rintro e w6 ⟨rfl, hb⟩
      have HB6 := Lib.hid (HB5.out.trans (hb.mono HB5.out.size))
      have HS6 := Lib.hid (bts_below HS5.out hb)
      have HT6 := Lib.hid (bts_below HT5.out hb)
      clear hb
      go_wp2_with fail
      have hcv : ∀ W', Ext w6.drew W' → (convert 22 9 (.slice A2 (l.length + 4) c2)).run Try.prog W' = .ok (.string (strB s)) W' := fun W' h => conv_bts (bts_ext HS6.out h) HLEN.out
      refine wp_region_plan [(0, false), (1, false), (2, false), (3, false), (4, false), (5, false), (8, false), (9, false), (6, true), (7, false), (10, false), (11, false), (12, false)] (by kernel_rfl) (by kernel_rfl) (fun _ d _ _ _ h => by cases d <;> exact h) ?_
      iterate 8 (refine plan_take (v := ?_) rfl (by kernel_rfl) ?_ ?_; rotate_left; (focus (intro w' hw'; go_simp; try with_reducible rfl)); simp only [Act.put, List.setIfInBounds_toArray, List.set_cons_zero, List.set_cons_succ])
      clear hcv
      refine plan_call rfl (by kernel_rfl) (by go_simp; exact ⟨rfl, rfl⟩) ?_
      refine (turn_at A4 (turnL s n) _ c4 n w6.drew HTL.out (by omega) (bts_ext HT6.out (Ext.refl _)) HN.out).mono ?_
      rw [HTT.out]
      rintro e w7 ⟨v7, rfl, hown, hb⟩
      obtain ⟨A7, c7, rfl, hB7, hA7⟩ := bts_own hown HSL.out rfl
      rw [HLEN.out]
      have HB7 := Lib.hid (HB6.out.drew.trans (hb.mono HB6.out.size))
      have hcv : ∀ W', Ext w7 W' → (convert 22 9 (.slice A7 (l.length + 4) c7)).run Try.prog W' = .ok (.string (strB s)) W' := fun W' h => conv_bts (bts_below hB7 h) HLEN.out
      refine ⟨_, rfl, hb, ?_⟩
      simp only [Act.put, List.setIfInBounds_toArray, List.set_cons_zero, List.set_cons_succ]
      clear hown hb hB7 hA7
      iterate 4 (refine plan_take (v := ?_) rfl (by kernel_rfl) ?_ ?_; rotate_left; (focus (intro w' hw'; go_simp; try with_reducible rfl)); simp only [Act.put, List.setIfInBounds_toArray, List.set_cons_zero, List.set_cons_succ])
      clear hcv
      refine plan_end ?_
      go_wp2
      go_ret
      exact ⟨by simp, HB7.out⟩
    · have HYES : Hid (openB (turnL s n) = true) := Lib.hid (by
        have e : turnL s n = s := if_neg (by rw [HLEN.out]; exact ht)
        rw [e]; exact HS.out)
      rcases (show n < 0 ∨ (0 ≤ n ∧ ((l.length : Int) + 4) ≤ n / 8) by omega) with t0 | ⟨t0, t1⟩
      · have f0 : decide (0 ≤ n) = false := by simp; omega
        clear ht t0
        go_wp2_with fail
        refine (open_yes A4 (turnL s n) _ c4 _ HTL.out (by omega) hc4 HT5.out HYES.out).mono ?_
        rintro e w6 ⟨v6, rfl, hown6, hb⟩
        clear hown6
        have HB6 := Lib.hid (HB5.out.trans (hb.mono HB5.out.size))
        have HS6 := Lib.hid (bts_below HS5.out hb)
        have HT6 := Lib.hid (bts_below HT5.out hb)
        clear hb
        go_wp2_with fail
        have hcv : ∀ W', Ext w6.drew W' → (convert 22 9 (.slice A2 (l.length + 4) c2)).run Try.prog W' = .ok (.string (strB s)) W' := fun W' h => conv_bts (bts_ext HS6.out h) HLEN.out
        refine wp_region_plan [(0, false), (1, false), (2, false), (3, false), (4, false), (5, false), (8, false), (9, false), (6, true), (7, false), (10, false), (11, false), (12, false)] (by kernel_rfl) (by kernel_rfl) (fun _ d _ _ _ h => by cases d <;> exact h) ?_
        iterate 8 (refine plan_take (v := ?_) rfl (by kernel_rfl) ?_ ?_; rotate_left; (focus (intro w' hw'; go_simp; try with_reducible rfl)); simp only [Act.put, List.setIfInBounds_toArray, List.set_cons_zero, List.set_cons_succ])
        clear hcv
        refine plan_call rfl (by kernel_rfl) (by go_simp; exact ⟨rfl, rfl⟩) ?_
        refine (turn_at A4 (turnL s n) _ c4 n w6.drew HTL.out (by omega) (bts_ext HT6.out (Ext.refl _)) HN.out).mono ?_
        rw [HTT.out]
        rintro e w7 ⟨v7, rfl, hown, hb⟩
        obtain ⟨A7, c7, rfl, hB7, hA7⟩ := bts_own hown HSL.out rfl
        rw [HLEN.out]
        have HB7 := Lib.hid (HB6.out.drew.trans (hb.mono HB6.out.size))
        have hcv : ∀ W', Ext w7 W' → (convert 22 9 (.slice A7 (l.length + 4) c7)).run Try.prog W' = .ok (.string (strB s)) W' := fun W' h => conv_bts (bts_below hB7 h) HLEN.out
        refine ⟨_, rfl, hb, ?_⟩
        simp only [Act.put, List.setIfInBounds_toArray, List.set_cons_zero, List.set_cons_succ]
        clear hown hb hB7 hA7
        iterate 4 (refine plan_take (v := ?_) rfl (by kernel_rfl) ?_ ?_; rotate_left; (focus (intro w' hw'; go_simp; try with_reducible rfl)); simp only [Act.put, List.setIfInBounds_toArray, List.set_cons_zero, List.set_cons_succ])
        clear hcv
        refine plan_end ?_
        go_wp2
        go_ret
        exact ⟨by simp, HB7.out⟩
      · have f0 : decide (0 ≤ n) = true := by simpa using t0
        have f1 : decide (n / 8 < ((l.length : Int) + 4)) = false := by simp; omega
        have f2 : decide (n / 8 < ((l.length + 4 : Nat) : Int)) = false := by simp; omega
        have n1 : n ≤ 9223372036854775807 := by have := HN.out; omega
        clear ht t1
        go_wp2_with fail
        refine (open_yes A4 (turnL s n) _ c4 _ HTL.out (by omega) hc4 HT5.out HYES.out).mono ?_
        rintro e w6 ⟨v6, rfl, hown6, hb⟩
        clear hown6
        have HB6 := Lib.hid (HB5.out.trans (hb.mono HB5.out.size))
        have HS6 := Lib.hid (bts_below HS5.out hb)
        have HT6 := Lib.hid (bts_below HT5.out hb)
        clear hb
        go_wp2_with fail
        have hcv : ∀ W', Ext w6.drew W' → (convert 22 9 (.slice A2 (l.length + 4) c2)).run Try.prog W' = .ok (.string (strB s)) W' := fun W' h => conv_bts (bts_ext HS6.out h) HLEN.out
        refine wp_region_plan [(0, false), (1, false), (2, false), (3, false), (4, false), (5, false), (8, false), (9, false), (6, true), (7, false), (10, false), (11, false), (12, false)] (by kernel_rfl) (by kernel_rfl) (fun _ d _ _ _ h => by cases d <;> exact h) ?_
        iterate 8 (refine plan_take (v := ?_) rfl (by kernel_rfl) ?_ ?_; rotate_left; (focus (intro w' hw'; go_simp; try with_reducible rfl)); simp only [Act.put, List.setIfInBounds_toArray, List.set_cons_zero, List.set_cons_succ])
        clear hcv
        refine plan_call rfl (by kernel_rfl) (by go_simp; exact ⟨rfl, rfl⟩) ?_
        refine (turn_at A4 (turnL s n) _ c4 n w6.drew HTL.out (by omega) (bts_ext HT6.out (Ext.refl _)) HN.out).mono ?_
        rw [HTT.out]
        rintro e w7 ⟨v7, rfl, hown, hb⟩
        obtain ⟨A7, c7, rfl, hB7, hA7⟩ := bts_own hown HSL.out rfl
        rw [HLEN.out]
        have HB7 := Lib.hid (HB6.out.drew.trans (hb.mono HB6.out.size))
        have hcv : ∀ W', Ext w7 W' → (convert 22 9 (.slice A7 (l.length + 4) c7)).run Try.prog W' = .ok (.string (strB s)) W' := fun W' h => conv_bts (bts_below hB7 h) HLEN.out
        refine ⟨_, rfl, hb, ?_⟩
        simp only [Act.put, List.setIfInBounds_toArray, List.set_cons_zero, List.set_cons_succ]
        clear hown hb hB7 hA7
        iterate 4 (refine plan_take (v := ?_) rfl (by kernel_rfl) ?_ ?_; rotate_left; (focus (intro w' hw'; go_simp; try with_reducible rfl)); simp only [Act.put, List.setIfInBounds_toArray, List.set_cons_zero, List.set_cons_succ])
        clear hcv
        refine plan_end ?_
        go_wp2
        go_ret
        exact ⟨by simp, HB7.out⟩
end Law
end Go.Proofs.Ytdgblhaihfccfaa
