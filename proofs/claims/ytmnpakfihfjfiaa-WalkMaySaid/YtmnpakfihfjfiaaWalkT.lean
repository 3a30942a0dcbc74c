/- WalkMay. -/
import Derived.Test.YtmnpakfihfjfiaaWalkO
import Derived.Test.YtmnpakfihfjfiaaWalkS
namespace Go.Proofs.Ytmnpakfihfjfiaa
open Go.RowKit

theorem wkL_wf {n ppn va : Nat} {S : Nat → List Nat} {on user sum mxr : Bool} {a : Int} (hn : n ≤ 200) : LfWf (wkL (findW n S on ppn va) a user sum mxr) := by
  cases h : findW n S on ppn va with
  | err e => exact lf0_wf
  | leaf x l p =>
    have := findW_leaf h
    simp only [wkL]
    split
    · exact fdL_wf this.1 (by omega)
    · exact lf0_wf
set_option maxHeartbeats 1000000 in
theorem walk_nil (va : Nat) (asid ppn a : Int) (on user sum mxr : Bool) (W : World) :
    Calls Try.prog 7 #[.pointer none, .agg #[.bool on, .int .i64 asid, .int .u64 ppn], .int .u64 (va : Int), .int .i64 a, .agg #[.bool user, .bool sum, .bool mxr]] W fun e w' => e = .returned (.tuple #[.agg lf0.cs, .int .i64 (causeV a 12 13 15)]) ∧ Below W.heap.size W w' := by
  have HA : Hid (∃ W3, W3 = ((W.alloc (.cells #[.bool on, .int .i64 asid, .int .u64 ppn] 31)).alloc (.cells #[.bool user, .bool sum, .bool mxr] 34)).alloc (.cells #[.bool false, .bool false, .bool false, .bool false, .bool false, .bool false, .bool false, .bool false, .int .i64 0, .int .u64 0, .int .i64 0, .int .u64 0] 38) ∧ Blk W3 (W.heap.size + 1 + 1) 38 #[.bool false, .bool false, .bool false, .bool false, .bool false, .bool false, .bool false, .bool false, .int .i64 0, .int .u64 0, .int .i64 0, .int .u64 0] ∧ Below W.heap.size W W3) :=
    Lib.hid ⟨_, rfl, Blkf.new_at _ _ _ _ (by simp), (((Below.refl _ _).alloc (Nat.le_refl _) _).alloc (by simp) _).alloc (by simp; omega) _⟩
  go_enter Try.func7, Try.ntmps7
  go_wp2_with fail
  obtain ⟨W3, hW3, hz, hb3⟩ := HA.out
  rw [← hW3]
  clear hW3 HA
  have HZ := Lib.hid hz
  have HB := Lib.hid hb3
  clear hz hb3
  refine (find_nil_c va on asid ppn _).mono ?_
  rintro e w2 ⟨rfl, hb2⟩
  have hz2 := HZ.out.below hb2 HZ.out.lt
  have hb4 := HB.out.trans (hb2.mono HB.out.size)
  clear hb2
  have HZ2 := Lib.hid (hz2.alloc (.cells lf0.cs 38))
  have HB2 := Lib.hid (hb4.alloc hb4.size (.cells lf0.cs 38))
  clear hz2 hb4
  go_wp2_with (first | ((with_reducible refine wl_store_new 38 (.tmp 12) (.tmp 19) rfl ?_ w2 (World.heap w2).size 38 #[.bool false, .bool false, .bool false, .bool false, .bool false, .bool false, .bool false, .bool false, .int .i64 0, .int .u64 0, .int .i64 0, .int .u64 0] lf0.cs ?_ ?_ ?_ ?_ ?_ ?_ ?_ ?_); exact rfl; exact rfl; exact rfl; exact rfl; exact rfl; exact rfl; exact lrow lf0; exact lcs_one lf0))
  generalize w2.alloc (.cells lf0.cs 38) = w5 at *
  go_wp2_with fail
  refine (page_any a _).mono ?_
  rintro e w6 ⟨rfl, rfl⟩
  have HZ6 := Lib.hid (HZ2.out.alloc (.cells #[.int .i64 12, .int .i64 13, .int .i64 15] 84))
  have HB6 := Lib.hid (HB2.out.alloc HB2.out.size (.cells #[.int .i64 12, .int .i64 13, .int .i64 15] 84))
  go_wp2_with (first | ((with_reducible refine wl_store 38 (.tmp 10) (.tmp 38) rfl ?_ (W.heap.size + 1 + 1) 38 #[.bool false, .bool false, .bool false, .bool false, .bool false, .bool false, .bool false, .bool false, .int .i64 0, .int .u64 0, .int .i64 0, .int .u64 0] #[.bool false, .bool false, .bool false, .bool false, .bool false, .bool false, .bool false, .bool false, .int .i64 0, .int .u64 0, .int .i64 0, .int .u64 0] ?_ ?_ HZ6.out ?_ ?_ ?_ ?_); exact rfl; exact rfl; exact rfl; exact rfl; exact leaf_row; exact lzer_one))
  refine bodyPost_ret (res_cell_slot (cs := #[.bool false, .bool false, .bool false, .bool false, .bool false, .bool false, .bool false, .bool false, .int .i64 0, .int .u64 0, .int .i64 0, .int .u64 0]) (v := .int .i64 (causeV a 12 13 15)) rfl _ _ (W.heap.size + 1 + 1) 38 rfl rfl (HZ6.out.setRow _) leaf_row) rfl ⟨rfl, below_setRow HB6.out (by omega) _⟩
set_option maxRecDepth 100000 in
set_option maxHeartbeats 4000000 in
theorem may_any (va h0 h1 h2 h3 h4 : Nat) (A : Option Addr) (len cap : Nat) (ws : List (Nat × Nat)) (W : World) (hv : va < 18446744073709551616) (b0 : h0 < 256) (b1 : h1 < 256) (b2 : h2 < 256) (b3 : h3 < 256) (hl : len = ws.length) (hw : WdAt W A ws) (hm : len ≤ 9223372036854775807) :
    Calls Try.prog 3 #[.slice A len cap, .int .u64 (va : Int), .agg #[.int .u8 (h0 : Int), .int .u8 (h1 : Int), .int .u8 (h2 : Int), .int .u8 (h3 : Int), .int .u8 (h4 : Int)]] W fun e w' => e = .returned (.bool true) ∧ Below W.heap.size W w' := by
  have HV := Lib.hid hv
  have HW := Lib.hid hw
  have HL := Lib.hid hl
  have HM := Lib.hid hm
  have i0 : (h0 : Int) < 256 := by omega
  have i1 : (h1 : Int) < 256 := by omega
  have i2 : (h2 : Int) < 256 := by omega
  have i3 : (h3 : Int) < 256 := by omega
  have H0 : Hid (∃ W1, W1 = W.alloc (.cells #[.int .u8 (h0 : Int), .int .u8 (h1 : Int), .int .u8 (h2 : Int), .int .u8 (h3 : Int), .int .u8 (h4 : Int)] 24) ∧ Blk W1 W.heap.size 24 #[.int .u8 (h0 : Int), .int .u8 (h1 : Int), .int .u8 (h2 : Int), .int .u8 (h3 : Int), .int .u8 (h4 : Int)] ∧ Below W.heap.size W W1) := Lib.hid ⟨_, rfl, Blkf.new_at _ _ _ _ rfl, (Below.refl _ _).alloc (Nat.le_refl _) _⟩
  clear hv hw hl hm b0 b1 b2 b3
  go_enter Try.func3, Try.ntmps3
  go_wp2_with fail
  obtain ⟨W1, hW1, hbx, hb1⟩ := H0.out
  rw [← hW1]
  clear hW1 H0
  have HBX := Lib.hid hbx
  have HB1 := Lib.hid hb1
  clear hbx hb1
  refine (first_ok _).mono ?_
  rintro e w0 ⟨rfl, hb⟩
  have HBX0 := Lib.hid (HBX.out.below hb HBX.out.lt)
  have HB0 := Lib.hid (HB1.out.trans (hb.mono HB1.out.size))
  clear hb HBX HB1
  go_wp2_with fail
  refine (laid_any 6 A len cap ws _ (by decide) (by decide) HL.out (HW.out.below HB0.out) HM.out).mono ?_
  rintro e w1 ⟨g, xb, L, rfl, hp, hr⟩
  generalize laidS 6 (ws.take 60) = S at *
  have HR := Lib.hid hr
  have S0 : Hid (PS w0 g xb 6 L S [] w1) := Lib.hid ⟨hp, fun p hp => by simp at hp⟩
  have HBX1 := Lib.hid (HBX0.out.below hp.bel HBX0.out.lt)
  clear hp hr HBX0
  have S2 : Hid (PS w0 g xb 6 L S [(w1.heap.size + 1, 34, #[.bool ((h3 : Int) % 2 == 0), .bool (decide (1 < (h3 : Int) % 4)), .bool (decide (3 < (h3 : Int) % 8))]), (w1.heap.size, 31, #[.bool (decide (0 < (h0 : Int) % 8)), .int .i64 0, .int .u64 ((h1 : Int) % 8)])] ((w1.alloc (.cells #[.bool (decide (0 < (h0 : Int) % 8)), .int .i64 0, .int .u64 ((h1 : Int) % 8)] 31)).alloc (.cells #[.bool ((h3 : Int) % 2 == 0), .bool (decide (1 < (h3 : Int) % 4)), .bool (decide (3 < (h3 : Int) % 8))] 34))) := Lib.hid ((S0.out.push _ _ rfl).push _ _ (by simp))
  have c0 := HBX1.out.cell 0
  have c1 := HBX1.out.cell 1
  have c2 := (HBX1.out.alloc (.cells #[.bool (decide (0 < (h0 : Int) % 8)), .int .i64 0, .int .u64 ((h1 : Int) % 8)] 31)).cell 2
  have c3 := (HBX1.out.alloc (.cells #[.bool (decide (0 < (h0 : Int) % 8)), .int .i64 0, .int .u64 ((h1 : Int) % 8)] 31)).cell 3
  simp at c0 c1 c2 c3
  have d0 := (S2.out.at_ 1 _ rfl).cell 0
  have d1 := (S2.out.at_ 1 _ rfl).cell 1
  have d2 := (S2.out.at_ 1 _ rfl).cell 2
  have e0 := (S2.out.at_ 0 _ rfl).cell 0
  have e1 := (S2.out.at_ 0 _ rfl).cell 1
  have e2 := (S2.out.at_ 0 _ rfl).cell 2
  simp only [List.getElem?_toArray, List.getElem?_cons_zero, List.getElem?_cons_succ] at d0 d1 d2 e0 e1 e2
  go_wp2_with fail
  clear c0 c1 c2 c3 d0 d1 d2 e0 e1 e2 S0
  obtain ⟨p, hp8⟩ : ∃ p : Nat, (h1 : Int) % 8 = (p : Int) := ⟨h1 % 8, by simp⟩
  have HP8 : Hid (p < 18446744073709551616) := Lib.hid (by omega)
  rw [hp8] at S2 ⊢
  clear hp8
  generalize decide (0 < (h0 : Int) % 8) = on at *
  generalize ((h3 : Int) % 2 == 0) = user at *
  generalize decide (1 < (h3 : Int) % 4) = sum at *
  generalize decide (3 < (h3 : Int) % 8) = mxr at *
  generalize (h2 : Int) % 5 - 1 = a at *
  clear i0 i1 i2 i3 HBX1
  refine (S2.out.walk va p 0 a on user sum mxr HV.out HP8.out).mono ?_
  rintro e w3 ⟨rfl, hs3⟩
  obtain ⟨lw, hlw⟩ : ∃ lw, lw = wkL (findW 6 S on p va) a user sum mxr := ⟨_, rfl⟩
  obtain ⟨c, hc⟩ : ∃ c, c = wkC (findW 6 S on p va) a user sum mxr := ⟨_, rfl⟩
  have HLW : Hid (LfWf lw) := Lib.hid (by rw [hlw]; exact wkL_wf (by decide))
  rw [← hlw, ← hc]
  have HLE := Lib.hid hlw
  have HCE := Lib.hid hc
  clear hlw hc
  have S3 := Lib.hid (hs3.push lw.cs 38 rfl)
  clear hs3 S2
  have d0 := (S3.out.at_ 2 _ rfl).cell 0
  have d1 := (S3.out.at_ 2 _ rfl).cell 1
  have d2 := (S3.out.at_ 2 _ rfl).cell 2
  have e0 := (S3.out.at_ 1 _ rfl).cell 0
  have e1 := (S3.out.at_ 1 _ rfl).cell 1
  have e2 := (S3.out.at_ 1 _ rfl).cell 2
  simp only [List.getElem?_toArray, List.getElem?_cons_zero, List.getElem?_cons_succ] at d0 d1 d2 e0 e1 e2
  go_wp2_with (first | ((with_reducible refine wl_store_new 38 (.tmp 12) (.tmp 59) rfl ?_ w3 (World.heap w3).size 38 lf0.cs lw.cs ?_ ?_ ?_ ?_ ?_ ?_ ?_ ?_); exact rfl; exact rfl; exact rfl; exact rfl; exact rfl; exact rfl; exact lrow _; exact lcs_one _))
  clear d0 d1 d2 e0 e1 e2
  refine (S3.out.rwalk HR.out (by decide) va p 0 a on user sum mxr HV.out HP8.out).mono ?_
  rintro e w4 ⟨rfl, hs4⟩
  rw [← HLE.out, ← HCE.out]
  have S4 := Lib.hid (hs4.push lw.cs 38 rfl)
  clear hs4 S3
  have d0 := (S4.out.at_ 3 _ rfl).cell 0
  have d1 := (S4.out.at_ 3 _ rfl).cell 1
  have d2 := (S4.out.at_ 3 _ rfl).cell 2
  have e0 := (S4.out.at_ 2 _ rfl).cell 0
  have e1 := (S4.out.at_ 2 _ rfl).cell 1
  have e2 := (S4.out.at_ 2 _ rfl).cell 2
  simp only [List.getElem?_toArray, List.getElem?_cons_zero, List.getElem?_cons_succ] at d0 d1 d2 e0 e1 e2
  go_wp2_with (first | ((with_reducible refine wl_store_new 38 (.tmp 14) (.tmp 68) rfl ?_ w4 (World.heap w4).size 38 lf0.cs lw.cs ?_ ?_ ?_ ?_ ?_ ?_ ?_ ?_); exact rfl; exact rfl; exact rfl; exact rfl; exact rfl; exact rfl; exact lrow _; exact lcs_one _))
  clear d0 d1 d2 e0 e1 e2
  refine (walk_nil va 0 p a on user sum mxr _).mono ?_
  rintro e w5 ⟨rfl, hb5⟩
  have S5 := Lib.hid ((S4.out.step hb5).push lf0.cs 38 rfl)
  have heq1 := fun W => leaf_same W lw HLW.out
  have heq2 : ∀ W, (Op.equalIn 10000 38 (.agg lf0.cs) (.agg #[.bool false, .bool false, .bool false, .bool false, .bool false, .bool false, .bool false, .bool false, .int .i64 0, .int .u64 0, .int .i64 0, .int .u64 0])).run Try.prog W = .ok true W := fun W => leaf_same W lf0 lf0_wf
  clear hb5 S4
  rcases (show a < 0 ∨ (0 ≤ a ∧ a ≤ 2) ∨ 2 < a by omega) with ha | ⟨ha, ha2⟩ | ha
  · have hcv : causeV a 12 13 15 = -1 := by unfold causeV; rw [if_neg (by simp; omega), if_neg (by simp; omega), if_neg (by simp; omega)]
    rw [hcv]
    clear hcv
    go_wp2_with (first | ((with_reducible refine wl_store_new 38 (.tmp 16) (.tmp 76) rfl ?_ w5 (World.heap w5).size 38 lf0.cs lf0.cs ?_ ?_ ?_ ?_ ?_ ?_ ?_ ?_); exact rfl; exact rfl; exact rfl; exact rfl; exact rfl; exact rfl; exact lrow _; exact lcs_one _) | ((with_reducible refine wl_load 38 (.tmp 12) rfl ?_ w3.heap.size 0 lw.cs ?_ (S5.out.range 2 _ rfl) ?_ ?_); exact rfl; exact rfl; exact lrow _) | ((with_reducible refine wl_load 38 (.tmp 14) rfl ?_ w4.heap.size 0 lw.cs ?_ (S5.out.range 1 _ rfl) ?_ ?_); exact rfl; exact rfl; exact lrow _) | ((with_reducible refine wl_load 38 (.tmp 16) rfl ?_ w5.heap.size 0 lf0.cs ?_ (S5.out.range 0 _ rfl) ?_ ?_); exact rfl; exact rfl; exact lrow _))
    go_ret
    exact ⟨rfl, HB0.out.trans (S5.out.play.bel.mono HB0.out.size)⟩
  · have hne : (causeV a 12 13 15 != -1) = true := by
      rcases (show a = 0 ∨ a = 1 ∨ a = 2 by omega) with rfl | rfl | rfl <;> rfl
    go_wp2_with (first | ((with_reducible refine wl_store_new 38 (.tmp 16) (.tmp 76) rfl ?_ w5 (World.heap w5).size 38 lf0.cs lf0.cs ?_ ?_ ?_ ?_ ?_ ?_ ?_ ?_); exact rfl; exact rfl; exact rfl; exact rfl; exact rfl; exact rfl; exact lrow _; exact lcs_one _) | ((with_reducible refine wl_load 38 (.tmp 12) rfl ?_ w3.heap.size 0 lw.cs ?_ (S5.out.range 2 _ rfl) ?_ ?_); exact rfl; exact rfl; exact lrow _) | ((with_reducible refine wl_load 38 (.tmp 14) rfl ?_ w4.heap.size 0 lw.cs ?_ (S5.out.range 1 _ rfl) ?_ ?_); exact rfl; exact rfl; exact lrow _) | ((with_reducible refine wl_load 38 (.tmp 16) rfl ?_ w5.heap.size 0 lf0.cs ?_ (S5.out.range 0 _ rfl) ?_ ?_); exact rfl; exact rfl; exact lrow _))
    go_ret
    exact ⟨rfl, HB0.out.trans (S5.out.play.bel.mono HB0.out.size)⟩
  · have hcv : causeV a 12 13 15 = -1 := by unfold causeV; rw [if_neg (by simp; omega), if_neg (by simp; omega), if_neg (by simp; omega)]
    have ha3 : ¬ a < 0 := by omega
    rw [hcv]
    clear hcv
    go_wp2_with (first | ((with_reducible refine wl_store_new 38 (.tmp 16) (.tmp 76) rfl ?_ w5 (World.heap w5).size 38 lf0.cs lf0.cs ?_ ?_ ?_ ?_ ?_ ?_ ?_ ?_); exact rfl; exact rfl; exact rfl; exact rfl; exact rfl; exact rfl; exact lrow _; exact lcs_one _) | ((with_reducible refine wl_load 38 (.tmp 12) rfl ?_ w3.heap.size 0 lw.cs ?_ (S5.out.range 2 _ rfl) ?_ ?_); exact rfl; exact rfl; exact lrow _) | ((with_reducible refine wl_load 38 (.tmp 14) rfl ?_ w4.heap.size 0 lw.cs ?_ (S5.out.range 1 _ rfl) ?_ ?_); exact rfl; exact rfl; exact lrow _) | ((with_reducible refine wl_load 38 (.tmp 16) rfl ?_ w5.heap.size 0 lf0.cs ?_ (S5.out.range 0 _ rfl) ?_ ?_); exact rfl; exact rfl; exact lrow _))
    go_ret
    exact ⟨rfl, HB0.out.trans (S5.out.play.bel.mono HB0.out.size)⟩
theorem Law.WalkMay (a : Option Addr) (len cap : Nat) (va h0 h1 h2 h3 h4 : Int) (W : World) (hz : IsRows [.int .u64, .int .u64] W a len cap) (hc : 16 * cap ≤ 140737488351232) (hv : (Lit.int .u64 va).wf = true) (b0 : (Lit.int .u8 h0).wf = true) (b1 : (Lit.int .u8 h1).wf = true) (b2 : (Lit.int .u8 h2).wf = true) (b3 : (Lit.int .u8 h3).wf = true) (b4 : (Lit.int .u8 h4).wf = true) :
    Calls Try.prog 3 #[.slice a len cap, .int .u64 va, .agg #[.int .u8 h0, .int .u8 h1, .int .u8 h2, .int .u8 h3, .int .u8 h4]] W fun e w' => e = .returned (.bool true) ∧ Below W.heap.size W w' := by
  obtain ⟨va, rfl⟩ := Int.eq_ofNat_of_zero_le (u64_of_wf hv).1
  obtain ⟨h0, rfl⟩ := Int.eq_ofNat_of_zero_le (u8_of_wf b0).1
  obtain ⟨h1, rfl⟩ := Int.eq_ofNat_of_zero_le (u8_of_wf b1).1
  obtain ⟨h2, rfl⟩ := Int.eq_ofNat_of_zero_le (u8_of_wf b2).1
  obtain ⟨h3, rfl⟩ := Int.eq_ofNat_of_zero_le (u8_of_wf b3).1
  obtain ⟨h4, rfl⟩ := Int.eq_ofNat_of_zero_le (u8_of_wf b4).1
  have l1 := (u64_of_wf hv).2
  have l2 := (u8_of_wf b0).2
  have l3 := (u8_of_wf b1).2
  have l4 := (u8_of_wf b2).2
  have l5 := (u8_of_wf b3).2
  obtain ⟨ws, hl, hw⟩ := wd_of_rows hz
  exact may_any va h0 h1 h2 h3 h4 a len cap ws W (by omega) (by omega) (by omega) (by omega) (by omega) hl hw (rows_len hz hc)
end Go.Proofs.Ytmnpakfihfjfiaa
