/- The laws' own first function; CheckSums, CheckOpens. -/
import Derived.Test.YtdgblhaihfccfaaCheckG
import Derived.Lib.SmallJoins
namespace Go.Proofs.Ytdgblhaihfccfaa
open Go.RowKit

theorem bts_lit (w : World) (fr : Nat × Nat) (l : List Nat) (hl : ∀ i : Nat, l.getD i 0 < 256) (n : Nat) (hn : n = w.heap.size) : Bts (w.alloc (.cells (l.map bv).toArray 5 fr)) (some ⟨n, 0, none⟩) l := by
  subst hn
  refine ⟨hl, fun _ => ⟨_, _, rfl, fun i hi => ?_⟩⟩
  rw [Nat.zero_add, World.cell?_alloc_mark, List.getElem?_toArray, List.getElem?_map, List.getD_eq_getElem?_getD, List.getElem?_eq_getElem hi]
  rfl
theorem bytes_lt {l : List Nat} (h : l.all (· < 256) = true) (i : Nat) : l.getD i 0 < 256 := by
  rw [List.getD_eq_getElem?_getD]
  cases hi : l[i]? with
  | none => decide
  | some x => simpa using List.all_eq_true.1 h x (List.mem_of_getElem? hi)
theorem sealed_take (l : List Nat) : (l ++ bytesOf (sumV l) 4).take ((l ++ bytesOf (sumV l) 4).length - 4) = l := by
  rw [List.length_append, bytes4, Nat.add_sub_cancel, List.take_left]
theorem sealed_drop (l : List Nat) : (l ++ bytesOf (sumV l) 4).drop ((l ++ bytesOf (sumV l) 4).length - 4) = bytesOf (sumV l) 4 := by
  rw [List.length_append, bytes4, Nat.add_sub_cancel, List.drop_left]
theorem append_lt {a b : List Nat} (ha : ∀ i : Nat, a.getD i 0 < 256) (hb : ∀ i : Nat, b.getD i 0 < 256) (i : Nat) : (a ++ b).getD i 0 < 256 := by
  rw [List.getD_eq_getElem?_getD]
  rcases Nat.lt_or_ge i a.length with h | h
  · rw [List.getElem?_append_left h, ← List.getD_eq_getElem?_getD]; exact ha i
  · rw [List.getElem?_append_right h, ← List.getD_eq_getElem?_getD]; exact hb _
theorem sealed_open (l : List Nat) (hl : ∀ i : Nat, l.getD i 0 < 256) : openB (l ++ bytesOf (sumV l) 4) = true := by
  rw [openB_eq _ (append_lt hl (bytesOf_lt _ _)) (by rw [List.length_append, bytes4]; omega), sealed_take, sealed_drop]
  simp
theorem open_yes (A : Option Addr) (l : List Nat) (n c : Nat) (W : World) (hl : l.length = n) (hn : n ≤ 140737488355000) (hc : n ≤ c) (hB : Bts W A l) (ho : openB l = true) :
    Calls Try.prog 12 #[.slice A n c] W fun e w' => ∃ v, e = .returned (.tuple #[v, .bool true]) ∧ w'.ownsRow W.heap.size 5 1 v (n - 4) ((l.take (n - 4)).map bv) ∧ Below W.heap.size W w' := by
  subst hl
  refine (open_any A l c W hn hc hB).mono ?_
  intro e w' h
  unfold OpenR at h
  rw [ho, if_pos rfl] at h
  exact h
theorem open_no (A : Option Addr) (l : List Nat) (n c : Nat) (W : World) (hl : l.length = n) (hn : n ≤ 140737488355000) (hc : n ≤ c) (hB : Bts W A l) (ho : openB l = false) :
    Calls Try.prog 12 #[.slice A n c] W fun e w' => e = .returned (.tuple #[.slice none 0 0, .bool false]) ∧ Below W.heap.size W w' := by
  subst hl
  refine (open_any A l c W hn hc hB).mono ?_
  intro e w' h
  unfold OpenR at h
  rw [ho, if_neg (by decide)] at h
  exact h
theorem seal_at (A : Option Addr) (l : List Nat) (n c : Nat) (W : World) (hl : l.length = n) (hn : n ≤ 140737488355000) (hB : Bts W A l) :
    Calls Try.prog 10 #[.slice A n c] W (RetOwn (l ++ bytesOf (sumV l) 4) W) := by
  subst hl; exact seal_any A l c W hn hB

theorem sum_check : sumV [49, 50, 51, 52, 53, 54, 55, 56, 57] = 3421780262 := by decide +kernel

set_option maxHeartbeats 4000000 in
theorem first_ok (w : World) :
    Calls Try.prog 7 #[] w fun e w' => e = .returned (.bool true) ∧ Below w.heap.size w w' := by
  have kc := fun (C : Array Value) (n c : Nat) => Lib.run_convert_bytes_const (P := Try.prog) w 22 5 C n c Try.underlying22 Try.underlying5
  go_enter Try.func7, Try.ntmps7
  go_wp2_with fail
  clear kc
  refine (seal_at _ [97, 98, 99] 3 3 _ rfl (by omega) (bts_lit w (3, 4) [97, 98, 99] (bytes_lt rfl) w.heap.size rfl)).mono ?_
  rintro e w1 ⟨v1, rfl, hown, hb⟩
  obtain ⟨A1, c1, rfl, hB1, hA1⟩ := bts_own hown (append_lt (bytes_lt rfl) (bytesOf_lt _ _)) rfl
  have hc1 : 7 ≤ c1 := by
    rcases hown.2 with ⟨h, h2⟩ | ⟨g, cap, cur, h, _, _, h3, _⟩
    · rw [List.length_append, bytes4] at h2; simp at h2
    · injection h with _ _ h; rw [List.length_append, bytes4] at h3; simp at h3; omega
  rw [show (([97, 98, 99] : List Nat) ++ bytesOf (sumV [97, 98, 99]) 4).length = 7 from by rw [List.length_append, bytes4]; rfl]
  have HB1 := Lib.hid (((Below.refl _ w).alloc (Nat.le_refl _) (.cells ([97, 98, 99].map bv).toArray 5 (3, 4))).trans (hb.mono (by simp)))
  have HT1 := Lib.hid hB1
  have HC1 := Lib.hid hc1
  clear hown hb hB1 hA1 hc1
  go_wp2_with fail
  refine (open_yes A1 _ 7 c1 _ (by rw [List.length_append, bytes4]; rfl) (by omega) HC1.out HT1.out (sealed_open _ (bytes_lt rfl))).mono ?_
  rintro e w2 ⟨v2, rfl, hown, hb⟩
  have hst := sealed_take [97, 98, 99]
  rw [show (([97, 98, 99] : List Nat) ++ bytesOf (sumV [97, 98, 99]) 4).length = 7 from by rw [List.length_append, bytes4]; rfl] at hst
  rw [hst] at hown
  obtain ⟨A2, c2, rfl, hB2, hA2⟩ := bts_own hown (bytes_lt rfl) rfl
  rw [show ([97, 98, 99] : List Nat).length = 3 from rfl]
  have HB2 := Lib.hid (HB1.out.trans (hb.mono HB1.out.size))
  have HT2 := Lib.hid hB2
  clear hst hown hb hB2 hA2 HT1 HC1
  go_wp2_with fail
  refine (open_no _ [1, 2, 3] 3 3 _ rfl (by omega) (by omega) (bts_lit w2 (0, 0) [1, 2, 3] (bytes_lt rfl) w2.heap.size rfl) rfl).mono ?_
  rintro e w3 ⟨rfl, hb⟩
  have HB3 := Lib.hid ((HB2.out.alloc HB2.out.size _).trans (hb.mono (Nat.le_trans HB2.out.size (by simp))))
  have HT3 := Lib.hid (bts_below (w := w2.alloc (.cells ([1, 2, 3].map bv).toArray 5)) (bts_below HT2.out ((Below.refl _ _).alloc (Nat.le_refl _) _)) hb)
  clear hb
  have kc := fun (C : Array Value) (n c : Nat) => Lib.run_convert_bytes_const (P := Try.prog) w3 22 5 C n c Try.underlying22 Try.underlying5
  go_wp2_with fail
  clear kc
  refine (sum_at _ [49, 50, 51, 52, 53, 54, 55, 56, 57] 9 9 _ rfl (by omega) (bts_lit w3 (9, 10) [49, 50, 51, 52, 53, 54, 55, 56, 57] (bytes_lt rfl) w3.heap.size rfl)).mono ?_
  rintro e w' ⟨rfl, rfl⟩
  rw [sum_check]
  go_wp2_with fail
  refine (sum_at none [] 0 0 _ rfl (by omega) ⟨fun i => by simp, fun h => by simp at h⟩).mono ?_
  rintro e w' ⟨rfl, rfl⟩
  rw [show sumV [] = 0 from rfl]
  have HT4 := Lib.hid (bts_below HT3.out ((Below.refl _ _).alloc (Nat.le_refl _) (.cells ([49, 50, 51, 52, 53, 54, 55, 56, 57].map bv).toArray 5 (9, 10))))
  have hcv := conv_bts (c := c2) HT4.out rfl
  rw [show ([97, 98, 99] : List Nat).length = 3 from rfl] at hcv
  simp only [List.map_cons, List.map_nil] at hcv
  have hs : ((strB [97, 98, 99]).toList == [97, 98, 99]) = true := by rw [strB, ByteArray.toList_mk]; rfl
  go_wp2
  go_ret
  exact ⟨rfl, HB3.out.alloc HB3.out.size _⟩

/-- An argument's bytes. -/
theorem row_nil {w : World} {l : List Nat} (h : Bts w none l) : l = [] := by
  rcases Nat.eq_zero_or_pos l.length with h0 | h0
  · exact List.eq_nil_of_length_eq_zero h0
  · obtain ⟨b, o, e, _⟩ := h.2 h0
    cases e
theorem row_cap {k : IntKind} {w : World} {a : Option Addr} {len cap : Nat} {zs : List Int} (h : IsRow k w a len cap zs) : len ≤ cap := by
  rcases h with ⟨_, rfl, rfl, _⟩ | ⟨_, _, h, _⟩ <;> omega
namespace Law
set_option maxHeartbeats 4000000 in
theorem CheckSums (A : Option Addr) (len c : Nat) (z : List Int) (W : World) (hz : IsRow .u8 W A len c z) (_ : 1 * c ≤ 140737488351232) :
    Calls Try.prog 3 #[.slice A len c] W fun e w' => e = .returned (.bool true) ∧ Below W.heap.size W w' := by
  obtain ⟨l, rfl, hB, hlm⟩ := bts_of_row hz
  clear hz
  have HB := Lib.hid hB
  clear hB
  by_cases hbig : 3000 < l.length
  · have e1 : decide ((3000 : Int) < (l.length : Int)) = true := by simp; omega
    go_enter Try.func3, Try.ntmps3
    go_wp2_with fail
    refine (first_ok _).mono ?_
    rintro e w1 ⟨rfl, hb⟩
    have HB1 := Lib.hid hb
    clear hb
    go_wp2
    go_ret
    exact ⟨rfl, HB1.out⟩
  · have e1 : decide ((3000 : Int) < (l.length : Int)) = false := by simp; omega
    have hl : l.length ≤ 3000 := by omega
    clear hbig
    go_enter Try.func3, Try.ntmps3
    go_wp2_with fail
    refine (first_ok _).mono ?_
    rintro e w1 ⟨rfl, hb⟩
    have HB1 := Lib.hid hb
    have HT1 := Lib.hid (bts_below HB.out hb)
    clear hb
    go_wp2_with fail
    have hcv : ∀ W', Ext w1.drew W' → (convert 22 9 (.slice A l.length c)).run Try.prog W' = .ok (.string (strB l)) W' := fun W' h => conv_bts (bts_ext HT1.out h) rfl
    refine wp_region_plan [(0, false), (2, false), (1, true), (3, true), (4, false), (5, false), (6, false), (9, false), (10, false), (11, false), (7, true), (8, false), (12, true), (13, true), (14, false), (15, false), (16, false), (17, false), (18, false)] (by kernel_rfl) (by kernel_rfl) (fun _ d _ _ _ h => by cases d <;> exact h) ?_
    iterate 2 (refine plan_take (v := ?_) rfl (by kernel_rfl) ?_ ?_; rotate_left; (focus (intro w' hw'; go_simp; try with_reducible rfl)); simp only [Act.put, List.setIfInBounds_toArray, List.set_cons_zero, List.set_cons_succ])
    refine plan_call rfl (by kernel_rfl) (by go_simp; exact ⟨rfl, rfl⟩) ?_
    refine (sum_any A l c w1.drew (by omega) (bts_ext HT1.out (Ext.refl _))).mono ?_
    rintro e w' ⟨rfl, rfl⟩
    refine ⟨_, rfl, Ext.refl _, ?_⟩
    simp only [Act.put, List.setIfInBounds_toArray, List.set_cons_zero, List.set_cons_succ]
    refine plan_call rfl (by kernel_rfl) (by go_simp; exact ⟨rfl, rfl⟩) ?_
    refine (rsum_any A l c w1.drew (by omega) (bts_ext HT1.out (Ext.refl _))).mono ?_
    rintro e w' ⟨rfl, rfl⟩
    refine ⟨_, rfl, Ext.refl _, ?_⟩
    simp only [Act.put, List.setIfInBounds_toArray, List.set_cons_zero, List.set_cons_succ]
    iterate 6 (refine plan_take (v := ?_) rfl (by kernel_rfl) ?_ ?_; rotate_left; (focus (intro w' hw'; go_simp; try with_reducible rfl)); simp only [Act.put, List.setIfInBounds_toArray, List.set_cons_zero, List.set_cons_succ])
    clear hcv
    refine plan_call rfl (by kernel_rfl) (by go_simp; exact ⟨rfl, rfl⟩) ?_
    refine (seal_any A l c w1.drew (by omega) (bts_ext HT1.out (Ext.refl _))).mono ?_
    rintro e w2 ⟨v2, rfl, hown, hb⟩
    obtain ⟨A2, c2, rfl, hB2, hA2⟩ := bts_own hown (append_lt HB.out.1 (bytesOf_lt _ _)) rfl
    have HB2 := Lib.hid hb
    have HT2 := Lib.hid (bts_ext HT1.out hb)
    have hn2 : (l ++ bytesOf (sumV l) 4).length = l.length + 4 := by rw [List.length_append, bytes4]
    rw [hn2]
    have hcv : ∀ W', Ext w2 W' → (convert 22 9 (.slice A2 (l.length + 4) c2)).run Try.prog W' = .ok (.string (strB (l ++ bytesOf (sumV l) 4))) W' := fun W' h => conv_bts (bts_below hB2 h) hn2
    clear hn2
    refine ⟨_, rfl, hb, ?_⟩
    simp only [Act.put, List.setIfInBounds_toArray, List.set_cons_zero, List.set_cons_succ]
    clear hown hb hB2 hA2
    iterate 1 (refine plan_take (v := ?_) rfl (by kernel_rfl) ?_ ?_; rotate_left; (focus (intro w' hw'; go_simp; try with_reducible rfl)); simp only [Act.put, List.setIfInBounds_toArray, List.set_cons_zero, List.set_cons_succ])
    clear hcv
    refine plan_call rfl (by kernel_rfl) (by go_simp; exact ⟨rfl, rfl⟩) ?_
    refine (rsum_any A l c w2 (by omega) HT2.out).mono ?_
    rintro e w' ⟨rfl, rfl⟩
    refine ⟨_, rfl, Ext.refl _, ?_⟩
    simp only [Act.put, List.setIfInBounds_toArray, List.set_cons_zero, List.set_cons_succ]
    refine plan_call rfl (by kernel_rfl) (by go_simp; exact ⟨rfl, rfl⟩) ?_
    refine (tail_any (sumV l) w2 (sum_lt l)).mono ?_
    rintro e w3 ⟨v3, rfl, hown, hb⟩
    obtain ⟨A3, c3, rfl, hB3, hA3⟩ := bts_own hown (bytesOf_lt _ _) rfl
    have HB3 := Lib.hid hb
    rw [bytes4]
    have hcv : ∀ W', Ext w3 W' → (convert 22 9 (.slice A3 4 c3)).run Try.prog W' = .ok (.string (strB (bytesOf (sumV l) 4))) W' := fun W' h => conv_bts (bts_below hB3 h) (bytes4 _)
    have hadd : ∀ W', (Op.stringOp .add (strB l) (strB (bytesOf (sumV l) 4))).run Try.prog W' = .ok (.string (strB (l ++ bytesOf (sumV l) 4))) W' := fun W' => by
      rw [run_string_add_sum W' _ _ (by rw [strB_size, strB_size, bytes4]; omega), strB_append]
    refine ⟨_, rfl, hb, ?_⟩
    simp only [Act.put, List.setIfInBounds_toArray, List.set_cons_zero, List.set_cons_succ]
    clear hown hb hB3 hA3
    iterate 5 (refine plan_take (v := ?_) rfl (by kernel_rfl) ?_ ?_; rotate_left; (focus (intro w' hw'; go_simp; try with_reducible rfl)); simp only [Act.put, List.setIfInBounds_toArray, List.set_cons_zero, List.set_cons_succ])
    clear hcv hadd
    refine plan_end ?_
    go_wp2
    go_ret
    refine ⟨by simp, ?_⟩
    have b1 := HB1.out.drew
    have b2 := b1.trans (HB2.out.mono b1.size)
    exact b2.trans (HB3.out.mono b2.size)

set_option maxHeartbeats 4000000 in
theorem CheckOpens (A : Option Addr) (len c : Nat) (z : List Int) (W : World) (hz : IsRow .u8 W A len c z) (_ : 1 * c ≤ 140737488351232) :
    Calls Try.prog 4 #[.slice A len c] W fun e w' => e = .returned (.bool true) ∧ Below W.heap.size W w' := by
  have hcap := row_cap hz
  obtain ⟨l, rfl, hB, hlm⟩ := bts_of_row hz
  clear hz
  have HB := Lib.hid hB
  clear hB
  by_cases hbig : 3000 < l.length
  · have e1 : decide ((3000 : Int) < (l.length : Int)) = true := by simp; omega
    go_enter Try.func4, Try.ntmps4
    go_wp2_with fail
    refine (first_ok _).mono ?_
    rintro e w1 ⟨rfl, hb⟩
    have HB1 := Lib.hid hb
    clear hb
    go_wp2
    go_ret
    exact ⟨rfl, HB1.out⟩
  · have e1 : decide ((3000 : Int) < (l.length : Int)) = false := by simp; omega
    have hl : l.length ≤ 3000 := by omega
    clear hbig
    have hnil := fun (W : World) => conv_bts (w := W) (A := none) (l := []) (n := 0) (c := 0) ⟨fun i => by simp, fun h => by simp at h⟩ rfl
    by_cases h4 : l.length < 4
    · have HO : Hid (openB l = false) := Lib.hid (by simp [openB]; omega)
      have H4 := Lib.hid h4
      clear h4
      go_enter Try.func4, Try.ntmps4
      go_wp2_with fail
      refine (first_ok _).mono ?_
      rintro e w1 ⟨rfl, hb⟩
      have HB1 := Lib.hid hb
      have HT1 := Lib.hid (bts_below HB.out hb)
      clear hb
      go_wp2_with fail
      refine (open_no A l _ c _ rfl (by omega) hcap HT1.out HO.out).mono ?_
      rintro e w2 ⟨rfl, hb⟩
      have HB2 := Lib.hid hb
      clear hb
      go_wp2_with fail
      refine (ropen_short A l c _ H4.out).mono ?_
      rintro e w3 ⟨rfl, hb⟩
      have HB3 := Lib.hid hb
      clear hb
      go_wp2
      go_ret
      refine ⟨rfl, ?_⟩
      have b2 := HB1.out.trans (HB2.out.mono HB1.out.size)
      exact b2.trans (HB3.out.mono b2.size)
    · have h4' : 4 ≤ l.length := by omega
      obtain ⟨b, o, rfl, _⟩ := HB.out.2 (by omega)
      have H4 := Lib.hid h4'
      clear h4 h4'
      cases ho : openB l
      · have HO := Lib.hid ho
        clear ho
        go_enter Try.func4, Try.ntmps4
        go_wp2_with fail
        refine (first_ok _).mono ?_
        rintro e w1 ⟨rfl, hb⟩
        have HB1 := Lib.hid hb
        have HT1 := Lib.hid (bts_below HB.out hb)
        clear hb
        go_wp2_with fail
        refine (open_no _ l _ c _ rfl (by omega) hcap HT1.out HO.out).mono ?_
        rintro e w2 ⟨rfl, hb⟩
        have HB2 := Lib.hid hb
        have HT2 := Lib.hid (bts_below HT1.out hb)
        clear hb
        go_wp2_with fail
        refine (ropen_long b o l c _ _ HO.out (by omega) hcap HT2.out H4.out).mono ?_
        rintro e w3 ⟨rfl, hb⟩
        rw [if_neg (by decide)]
        have HB3 := Lib.hid hb
        clear hb
        go_wp2
        go_ret
        refine ⟨rfl, ?_⟩
        have b2 := HB1.out.trans (HB2.out.mono HB1.out.size)
        exact b2.trans (HB3.out.mono b2.size)
      · have HO := Lib.hid ho
        clear ho
        go_enter Try.func4, Try.ntmps4
        go_wp2_with fail
        refine (first_ok _).mono ?_
        rintro e w1 ⟨rfl, hb⟩
        have HB1 := Lib.hid hb
        have HT1 := Lib.hid (bts_below HB.out hb)
        clear hb
        go_wp2_with fail
        refine (open_yes _ l _ c _ rfl (by omega) hcap HT1.out HO.out).mono ?_
        rintro e w2 ⟨v2, rfl, hown, hb⟩
        have hlen : (l.take (l.length - 4)).length = l.length - 4 := by simp
        obtain ⟨A2, c2, rfl, hB2, hA2⟩ := bts_own hown (fun i => getD_take_lt l _ i HB.out.1) hlen.symm
        rw [hlen]
        have HB2 := Lib.hid hb
        have HT2 := Lib.hid (bts_below HT1.out hb)
        have HV2 := Lib.hid hB2
        have HLEN := Lib.hid hlen
        clear hb hown hB2 hA2 hlen
        go_wp2_with fail
        refine (ropen_long b o l c _ _ HO.out (by omega) hcap HT2.out H4.out).mono ?_
        rintro e w3 ⟨rfl, hb⟩
        rw [if_pos rfl]
        have HB3 := Lib.hid hb
        have hcv1 := conv_bts (c := c2) (bts_below HV2.out hb) HLEN.out
        have hcv2 := conv_bts (c := c) (bts_take (k := l.length - 4) (bts_below HT2.out hb)) HLEN.out
        clear hb
        go_wp2
        go_ret
        refine ⟨by simp, ?_⟩
        have b2 := HB1.out.trans (HB2.out.mono HB1.out.size)
        exact b2.trans (HB3.out.mono b2.size)
end Law
end Go.Proofs.Ytdgblhaihfccfaa
