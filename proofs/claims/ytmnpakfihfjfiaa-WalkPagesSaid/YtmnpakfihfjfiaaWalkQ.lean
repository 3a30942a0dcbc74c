/- WalkPages. -/
import Derived.Test.YtmnpakfihfjfiaaWalkO
namespace Go.Proofs.Ytmnpakfihfjfiaa
open Go.RowKit

set_option maxRecDepth 100000 in
set_option maxHeartbeats 4000000 in
theorem pages_any (va other : Nat) (A : Option Addr) (len cap : Nat) (ws : List (Nat × Nat)) (W : World) (hv : va < 18446744073709551616) (ho : other < 18446744073709551616) (hl : len = ws.length) (hw : WdAt W A ws) (hm : len ≤ 9223372036854775807) :
    Calls Try.prog 4 #[.slice A len cap, .int .u64 (va : Int), .int .u64 (other : Int)] W fun e w' => e = .returned (.bool true) ∧ Below W.heap.size W w' := by
  have HV := Lib.hid hv
  have HO := Lib.hid ho
  have HW := Lib.hid hw
  have HL := Lib.hid hl
  have HM := Lib.hid hm
  clear hv ho hw hl hm
  go_enter Try.func4, Try.ntmps4
  go_wp2_with fail
  refine (first_ok _).mono ?_
  rintro e w0 ⟨rfl, hb⟩
  have HB0 := Lib.hid hb
  clear hb
  go_wp2_with fail
  refine (laid_any 6 A len cap ws _ (by decide) (by decide) HL.out (HW.out.below HB0.out) HM.out).mono ?_
  rintro e w1 ⟨g, xb, L, rfl, hp, hr⟩
  generalize laidS 6 (ws.take 60) = S at *
  have S1 : Hid (PS w0 g xb 6 L S [(w1.heap.size, 31, #[.bool true, .int .i64 0, .int .u64 0])] (w1.alloc (.cells #[.bool true, .int .i64 0, .int .u64 0] 31))) := Lib.hid (PS.push ⟨hp, fun p hp => by simp at hp⟩ _ _ rfl)
  clear hp hr
  go_wp2_with fail
  refine (S1.out.find va 0 0 true HV.out (by decide)).mono ?_
  rintro e w2 ⟨rfl, hs2⟩
  cases hfd : findW 6 S true 0 va with
  | err er =>
    have HNE : Hid ((er != 0) = true) := Lib.hid (by have := findW_not hfd; simp; omega)
    clear hfd
    rw [show fdL (.err er) = lf0 from rfl, show fdE (.err er) = er from rfl]
    have S2 := Lib.hid (hs2.push lf0.cs 38 rfl)
    have hne := HNE.out
    have heq : ∀ W, (Op.equalIn 10000 38 (.agg lf0.cs) (.agg #[.bool false, .bool false, .bool false, .bool false, .bool false, .bool false, .bool false, .bool false, .int .i64 0, .int .u64 0, .int .i64 0, .int .u64 0])).run Try.prog W = .ok true W := fun W => leaf_same W lf0 lf0_wf
    clear S1 hs2
    go_wp2_with (first | ((with_reducible refine wl_store_new 38 (.tmp 10) (.tmp 29) rfl ?_ w2 (World.heap w2).size 38 lf0.cs lf0.cs ?_ ?_ ?_ ?_ ?_ ?_ ?_ ?_); exact rfl; exact rfl; exact rfl; exact rfl; exact rfl; exact rfl; exact lrow _; exact lcs_one _) | ((with_reducible refine wl_load 38 (.tmp 10) rfl ?_ w2.heap.size 0 lf0.cs ?_ (S2.out.range 0 _ rfl) ?_ ?_); exact rfl; exact rfl; exact lrow _))
    go_ret
    exact ⟨rfl, HB0.out.trans (S2.out.play.bel.mono HB0.out.size)⟩
  | leaf x l a =>
    have HLE := Lib.hid (findW_leaf hfd)
    have HPG : Hid (findW 6 S true 0 (besV va other l) = .leaf x l a) := Lib.hid (findW_page hfd)
    clear hfd
    have S2 := Lib.hid (hs2.push (fdL (.leaf x l a)).cs 38 rfl)
    clear S1 hs2
    rw [show fdE (.leaf x l a) = 0 from rfl]
    have h3 : l = 0 ∨ l = 1 ∨ l = 2 := by have := HLE.out.1; omega
    rcases h3 with rfl | rfl | rfl
    · have hsz : ¬ ((4096 : Int) = 0) := by decide
      have hc10 := (S2.out.at_ 0 _ rfl).cell 10
      have hc11 := (S2.out.at_ 0 _ rfl).cell 11
      rw [lcs_10] at hc10
      rw [lcs_11] at hc11
      rw [show (fdL (.leaf x 0 a)).lev = 0 from rfl] at hc10
      rw [show (fdL (.leaf x 0 a)).pos = (a : Int) from rfl] at hc11
      go_wp2_with (first | ((with_reducible refine wl_store_new 38 (.tmp 10) (.tmp 29) rfl ?_ w2 (World.heap w2).size 38 lf0.cs (fdL (.leaf x 0 a)).cs ?_ ?_ ?_ ?_ ?_ ?_ ?_ ?_); exact rfl; exact rfl; exact rfl; exact rfl; exact rfl; exact rfl; exact lrow _; exact lcs_one _))
      refine wp_region_plan [(0, false), (1, false), (2, false), (3, false), (4, false), (5, false), (6, false), (7, false), (8, false), (9, false)] (by kernel_rfl) (by kernel_rfl) (fun _ d _ _ _ h => by cases d <;> exact h) ?_
      iterate 10 (refine plan_take (v := ?_) rfl (by kernel_rfl) ?_ ?_; rotate_left; (focus (intro w' hw'; try go_simp; try with_reducible rfl)); simp only [Act.put, List.setIfInBounds_toArray, List.set_cons_zero, List.set_cons_succ])
      refine plan_end ?_
      rw [bes_wrap0 HV.out]
      have HDF := Lib.hid (bes_diff (p := ppnX x) (va := va) (o := other) (l := 0) (by decide) HV.out (ppnX_lt x))
      obtain ⟨b, hb⟩ : ∃ b, besV va other 0 = b := ⟨_, rfl⟩
      have HBL : Hid (b < 18446744073709551616) := Lib.hid (by rw [← hb]; exact bes_lt (by decide) HV.out)
      rw [hb] at HPG HDF ⊢
      clear hb hc10 hc11 hsz
      have S3 := Lib.hid (S2.out.step (Below.refl _ _).drew)
      have d0 := (S3.out.at_ 1 _ rfl).cell 0
      have d1 := (S3.out.at_ 1 _ rfl).cell 1
      have d2 := (S3.out.at_ 1 _ rfl).cell 2
      simp at d0 d1 d2
      clear S2
      go_wp2_with fail
      refine (S3.out.find b 0 0 true HBL.out (by decide)).mono ?_
      rintro e w3 ⟨rfl, hs3⟩
      rw [HPG.out]
      have S4 := Lib.hid (hs3.push (fdL (.leaf x 0 a)).cs 38 rfl)
      clear hs3 S3 d0 d1 d2 HPG
      rw [show fdE (.leaf x 0 a) = 0 from rfl]
      go_wp2_with (first | ((with_reducible refine wl_store_new 38 (.tmp 14) (.tmp 62) rfl ?_ w3 (World.heap w3).size 38 lf0.cs (fdL (.leaf x 0 a)).cs ?_ ?_ ?_ ?_ ?_ ?_ ?_ ?_); exact rfl; exact rfl; exact rfl; exact rfl; exact rfl; exact rfl; exact lrow _; exact lcs_one _))
      have heq := fun W => leaf_same W (fdL (.leaf x 0 a)) (fdL_wf (by decide) (by have := HLE.out.2.2; omega))
      have ha8 : (a : Int).tmod 8 = 0 := by have := HLE.out.2.1; rw [Int.tmod_eq_emod_of_nonneg (by omega)]; omega
      have hal : (a : Int) < 24576 := by have := HLE.out.2.2; omega
      have S5 := Lib.hid (S4.out.step (Below.refl _ _).drew)
      have HPos := Lib.hid ((S5.out.at_ 1 _ rfl).cell 11)
      obtain ⟨J1, hJ1⟩ : ∃ J, joinV (ppnX x) b ((0 : Nat) : Int) = J := ⟨_, rfl⟩
      obtain ⟨J2, hJ2⟩ : ∃ J, joinV (ppnX x) va ((0 : Nat) : Int) = J := ⟨_, rfl⟩
      rw [hJ1, hJ2] at HDF
      refine wp_region_plan [(0, false), (1, false), (2, false), (3, false), (4, false), (5, false), (6, false), (7, false), (8, false), (9, false), (11, false), (12, false), (15, false), (16, false), (17, false), (10, true), (13, true), (14, false), (18, false), (19, false), (20, false), (21, false), (22, false), (23, false), (24, false), (25, false), (26, false), (27, false), (28, false), (29, false), (30, false), (31, false)] (by kernel_rfl) (by kernel_rfl) (fun _ d _ _ _ h => by cases d <;> exact h) ?_
      iterate 3 (refine plan_take (v := ?_) rfl (by kernel_rfl) ?_ ?_; rotate_left; (focus (intro w' hw'; try go_simp; try with_reducible rfl)); simp only [Act.put, List.setIfInBounds_toArray, List.set_cons_zero, List.set_cons_succ])
      refine plan_take rfl (by kernel_rfl) (fun w' h' => run_load_op 38 (.tmp 14) rfl (w3.heap.size) 0 (fdL (.leaf x 0 a)).cs rfl (((S5.out.at_ 0 _ rfl).below h' (S5.out.at_ 0 _ rfl).lt).range) (lrow _)) ?_
      simp only [Act.put, List.setIfInBounds_toArray, List.set_cons_zero, List.set_cons_succ]
      refine plan_take rfl (by kernel_rfl) (fun w' h' => run_load_op 38 (.tmp 10) rfl (w2.heap.size) 0 (fdL (.leaf x 0 a)).cs rfl (((S5.out.at_ 1 _ rfl).below h' (S5.out.at_ 1 _ rfl).lt).range) (lrow _)) ?_
      simp only [Act.put, List.setIfInBounds_toArray, List.set_cons_zero, List.set_cons_succ]
      iterate 3 (refine plan_take (v := ?_) rfl (by kernel_rfl) ?_ ?_; rotate_left; (focus (intro w' hw'; try go_simp; try with_reducible rfl)); simp only [Act.put, List.setIfInBounds_toArray, List.set_cons_zero, List.set_cons_succ])
      refine plan_take rfl (by kernel_rfl) (fun w' h' => run_load_op 38 (.tmp 14) rfl (w3.heap.size) 0 (fdL (.leaf x 0 a)).cs rfl (((S5.out.at_ 0 _ rfl).below h' (S5.out.at_ 0 _ rfl).lt).range) (lrow _)) ?_
      simp only [Act.put, List.setIfInBounds_toArray, List.set_cons_zero, List.set_cons_succ]
      iterate 1 (refine plan_take (v := ?_) rfl (by kernel_rfl) ?_ ?_; rotate_left; (focus (intro w' hw'; try go_simp; try with_reducible rfl)); simp only [Act.put, List.setIfInBounds_toArray, List.set_cons_zero, List.set_cons_succ])
      refine plan_take rfl (by kernel_rfl) (fun w' h' => run_load_op 38 (.tmp 10) rfl (w2.heap.size) 0 (fdL (.leaf x 0 a)).cs rfl (((S5.out.at_ 1 _ rfl).below h' (S5.out.at_ 1 _ rfl).lt).range) (lrow _)) ?_
      simp only [Act.put, List.setIfInBounds_toArray, List.set_cons_zero, List.set_cons_succ]
      iterate 4 (refine plan_take (v := ?_) rfl (by kernel_rfl) ?_ ?_; rotate_left; (focus (intro w' hw'; try go_simp; try with_reducible rfl)); simp only [Act.put, List.setIfInBounds_toArray, List.set_cons_zero, List.set_cons_succ])
      refine plan_call rfl (by kernel_rfl) (by go_simp; exact ⟨rfl, rfl⟩) ?_
      refine (place_c x 0 a b _ HBL.out).mono ?_
      rintro e w' ⟨rfl, hb5⟩
      rw [hJ1]
      refine ⟨_, rfl, hb5, ?_⟩
      simp only [Act.put, List.setIfInBounds_toArray, List.set_cons_zero, List.set_cons_succ]
      refine plan_call rfl (by kernel_rfl) (by go_simp; exact ⟨rfl, rfl⟩) ?_
      refine (place_c x 0 a va _ HV.out).mono ?_
      rintro e w'' ⟨rfl, hb6⟩
      rw [hJ2]
      refine ⟨_, rfl, hb6, ?_⟩
      simp only [Act.put, List.setIfInBounds_toArray, List.set_cons_zero, List.set_cons_succ]
      have hd := HDF.out
      have S6 := (S5.out.step hb5).step hb6
      have hb11 := S6.at_ 1 _ rfl
      have hsp : ∀ W', Ext w'' W' → W'.cell? ⟨w2.heap.size, 11, none⟩ = some (.int .u64 (a : Int)) := fun W' h => (h.cell hb11.lt).trans (hb11.cell 11)
      iterate 15 (refine plan_take (v := ?_) rfl (by kernel_rfl) ?_ ?_; rotate_left; (focus (intro w' hw'; try go_simp; try with_reducible rfl)); simp only [Act.put, List.setIfInBounds_toArray, List.set_cons_zero, List.set_cons_succ])
      refine plan_end ?_
      clear hd hsp ha8 hal heq
      go_wp2_with fail
      go_ret
      exact ⟨rfl, HB0.out.trans (S6.play.bel.mono HB0.out.size)⟩
    · have hsz : ¬ ((2097152 : Int) = 0) := by decide
      have hc10 := (S2.out.at_ 0 _ rfl).cell 10
      have hc11 := (S2.out.at_ 0 _ rfl).cell 11
      rw [lcs_10] at hc10
      rw [lcs_11] at hc11
      rw [show (fdL (.leaf x 1 a)).lev = 1 from rfl] at hc10
      rw [show (fdL (.leaf x 1 a)).pos = (a : Int) from rfl] at hc11
      go_wp2_with (first | ((with_reducible refine wl_store_new 38 (.tmp 10) (.tmp 29) rfl ?_ w2 (World.heap w2).size 38 lf0.cs (fdL (.leaf x 1 a)).cs ?_ ?_ ?_ ?_ ?_ ?_ ?_ ?_); exact rfl; exact rfl; exact rfl; exact rfl; exact rfl; exact rfl; exact lrow _; exact lcs_one _))
      refine wp_region_plan [(0, false), (1, false), (2, false), (3, false), (4, false), (5, false), (6, false), (7, false), (8, false), (9, false)] (by kernel_rfl) (by kernel_rfl) (fun _ d _ _ _ h => by cases d <;> exact h) ?_
      iterate 10 (refine plan_take (v := ?_) rfl (by kernel_rfl) ?_ ?_; rotate_left; (focus (intro w' hw'; try go_simp; try with_reducible rfl)); simp only [Act.put, List.setIfInBounds_toArray, List.set_cons_zero, List.set_cons_succ])
      refine plan_end ?_
      rw [bes_wrap1 HV.out]
      have HDF := Lib.hid (bes_diff (p := ppnX x) (va := va) (o := other) (l := 1) (by decide) HV.out (ppnX_lt x))
      obtain ⟨b, hb⟩ : ∃ b, besV va other 1 = b := ⟨_, rfl⟩
      have HBL : Hid (b < 18446744073709551616) := Lib.hid (by rw [← hb]; exact bes_lt (by decide) HV.out)
      rw [hb] at HPG HDF ⊢
      clear hb hc10 hc11 hsz
      have S3 := Lib.hid (S2.out.step (Below.refl _ _).drew)
      have d0 := (S3.out.at_ 1 _ rfl).cell 0
      have d1 := (S3.out.at_ 1 _ rfl).cell 1
      have d2 := (S3.out.at_ 1 _ rfl).cell 2
      simp at d0 d1 d2
      clear S2
      go_wp2_with fail
      refine (S3.out.find b 0 0 true HBL.out (by decide)).mono ?_
      rintro e w3 ⟨rfl, hs3⟩
      rw [HPG.out]
      have S4 := Lib.hid (hs3.push (fdL (.leaf x 1 a)).cs 38 rfl)
      clear hs3 S3 d0 d1 d2 HPG
      rw [show fdE (.leaf x 1 a) = 0 from rfl]
      go_wp2_with (first | ((with_reducible refine wl_store_new 38 (.tmp 14) (.tmp 62) rfl ?_ w3 (World.heap w3).size 38 lf0.cs (fdL (.leaf x 1 a)).cs ?_ ?_ ?_ ?_ ?_ ?_ ?_ ?_); exact rfl; exact rfl; exact rfl; exact rfl; exact rfl; exact rfl; exact lrow _; exact lcs_one _))
      have heq := fun W => leaf_same W (fdL (.leaf x 1 a)) (fdL_wf (by decide) (by have := HLE.out.2.2; omega))
      have ha8 : (a : Int).tmod 8 = 0 := by have := HLE.out.2.1; rw [Int.tmod_eq_emod_of_nonneg (by omega)]; omega
      have hal : (a : Int) < 24576 := by have := HLE.out.2.2; omega
      have S5 := Lib.hid (S4.out.step (Below.refl _ _).drew)
      have HPos := Lib.hid ((S5.out.at_ 1 _ rfl).cell 11)
      obtain ⟨J1, hJ1⟩ : ∃ J, joinV (ppnX x) b ((1 : Nat) : Int) = J := ⟨_, rfl⟩
      obtain ⟨J2, hJ2⟩ : ∃ J, joinV (ppnX x) va ((1 : Nat) : Int) = J := ⟨_, rfl⟩
      rw [hJ1, hJ2] at HDF
      refine wp_region_plan [(0, false), (1, false), (2, false), (3, false), (4, false), (5, false), (6, false), (7, false), (8, false), (9, false), (11, false), (12, false), (15, false), (16, false), (17, false), (10, true), (13, true), (14, false), (18, false), (19, false), (20, false), (21, false), (22, false), (23, false), (24, false), (25, false), (26, false), (27, false), (28, false), (29, false), (30, false), (31, false)] (by kernel_rfl) (by kernel_rfl) (fun _ d _ _ _ h => by cases d <;> exact h) ?_
      iterate 3 (refine plan_take (v := ?_) rfl (by kernel_rfl) ?_ ?_; rotate_left; (focus (intro w' hw'; try go_simp; try with_reducible rfl)); simp only [Act.put, List.setIfInBounds_toArray, List.set_cons_zero, List.set_cons_succ])
      refine plan_take rfl (by kernel_rfl) (fun w' h' => run_load_op 38 (.tmp 14) rfl (w3.heap.size) 0 (fdL (.leaf x 1 a)).cs rfl (((S5.out.at_ 0 _ rfl).below h' (S5.out.at_ 0 _ rfl).lt).range) (lrow _)) ?_
      simp only [Act.put, List.setIfInBounds_toArray, List.set_cons_zero, List.set_cons_succ]
      refine plan_take rfl (by kernel_rfl) (fun w' h' => run_load_op 38 (.tmp 10) rfl (w2.heap.size) 0 (fdL (.leaf x 1 a)).cs rfl (((S5.out.at_ 1 _ rfl).below h' (S5.out.at_ 1 _ rfl).lt).range) (lrow _)) ?_
      simp only [Act.put, List.setIfInBounds_toArray, List.set_cons_zero, List.set_cons_succ]
      iterate 3 (refine plan_take (v := ?_) rfl (by kernel_rfl) ?_ ?_; rotate_left; (focus (intro w' hw'; try go_simp; try with_reducible rfl)); simp only [Act.put, List.setIfInBounds_toArray, List.set_cons_zero, List.set_cons_succ])
      refine plan_take rfl (by kernel_rfl) (fun w' h' => run_load_op 38 (.tmp 14) rfl (w3.heap.size) 0 (fdL (.leaf x 1 a)).cs rfl (((S5.out.at_ 0 _ rfl).below h' (S5.out.at_ 0 _ rfl).lt).range) (lrow _)) ?_
      simp only [Act.put, List.setIfInBounds_toArray, List.set_cons_zero, List.set_cons_succ]
      iterate 1 (refine plan_take (v := ?_) rfl (by kernel_rfl) ?_ ?_; rotate_left; (focus (intro w' hw'; try go_simp; try with_reducible rfl)); simp only [Act.put, List.setIfInBounds_toArray, List.set_cons_zero, List.set_cons_succ])
      refine plan_take rfl (by kernel_rfl) (fun w' h' => run_load_op 38 (.tmp 10) rfl (w2.heap.size) 0 (fdL (.leaf x 1 a)).cs rfl (((S5.out.at_ 1 _ rfl).below h' (S5.out.at_ 1 _ rfl).lt).range) (lrow _)) ?_
      simp only [Act.put, List.setIfInBounds_toArray, List.set_cons_zero, List.set_cons_succ]
      iterate 4 (refine plan_take (v := ?_) rfl (by kernel_rfl) ?_ ?_; rotate_left; (focus (intro w' hw'; try go_simp; try with_reducible rfl)); simp only [Act.put, List.setIfInBounds_toArray, List.set_cons_zero, List.set_cons_succ])
      refine plan_call rfl (by kernel_rfl) (by go_simp; exact ⟨rfl, rfl⟩) ?_
      refine (place_c x 1 a b _ HBL.out).mono ?_
      rintro e w' ⟨rfl, hb5⟩
      rw [hJ1]
      refine ⟨_, rfl, hb5, ?_⟩
      simp only [Act.put, List.setIfInBounds_toArray, List.set_cons_zero, List.set_cons_succ]
      refine plan_call rfl (by kernel_rfl) (by go_simp; exact ⟨rfl, rfl⟩) ?_
      refine (place_c x 1 a va _ HV.out).mono ?_
      rintro e w'' ⟨rfl, hb6⟩
      rw [hJ2]
      refine ⟨_, rfl, hb6, ?_⟩
      simp only [Act.put, List.setIfInBounds_toArray, List.set_cons_zero, List.set_cons_succ]
      have hd := HDF.out
      have S6 := (S5.out.step hb5).step hb6
      have hb11 := S6.at_ 1 _ rfl
      have hsp : ∀ W', Ext w'' W' → W'.cell? ⟨w2.heap.size, 11, none⟩ = some (.int .u64 (a : Int)) := fun W' h => (h.cell hb11.lt).trans (hb11.cell 11)
      iterate 15 (refine plan_take (v := ?_) rfl (by kernel_rfl) ?_ ?_; rotate_left; (focus (intro w' hw'; try go_simp; try with_reducible rfl)); simp only [Act.put, List.setIfInBounds_toArray, List.set_cons_zero, List.set_cons_succ])
      refine plan_end ?_
      clear hd hsp ha8 hal heq
      go_wp2_with fail
      go_ret
      exact ⟨rfl, HB0.out.trans (S6.play.bel.mono HB0.out.size)⟩
    · have hsz : ¬ ((1073741824 : Int) = 0) := by decide
      have hc10 := (S2.out.at_ 0 _ rfl).cell 10
      have hc11 := (S2.out.at_ 0 _ rfl).cell 11
      rw [lcs_10] at hc10
      rw [lcs_11] at hc11
      rw [show (fdL (.leaf x 2 a)).lev = 2 from rfl] at hc10
      rw [show (fdL (.leaf x 2 a)).pos = (a : Int) from rfl] at hc11
      go_wp2_with (first | ((with_reducible refine wl_store_new 38 (.tmp 10) (.tmp 29) rfl ?_ w2 (World.heap w2).size 38 lf0.cs (fdL (.leaf x 2 a)).cs ?_ ?_ ?_ ?_ ?_ ?_ ?_ ?_); exact rfl; exact rfl; exact rfl; exact rfl; exact rfl; exact rfl; exact lrow _; exact lcs_one _))
      refine wp_region_plan [(0, false), (1, false), (2, false), (3, false), (4, false), (5, false), (6, false), (7, false), (8, false), (9, false)] (by kernel_rfl) (by kernel_rfl) (fun _ d _ _ _ h => by cases d <;> exact h) ?_
      iterate 10 (refine plan_take (v := ?_) rfl (by kernel_rfl) ?_ ?_; rotate_left; (focus (intro w' hw'; try go_simp; try with_reducible rfl)); simp only [Act.put, List.setIfInBounds_toArray, List.set_cons_zero, List.set_cons_succ])
      refine plan_end ?_
      rw [bes_wrap2 HV.out]
      have HDF := Lib.hid (bes_diff (p := ppnX x) (va := va) (o := other) (l := 2) (by decide) HV.out (ppnX_lt x))
      obtain ⟨b, hb⟩ : ∃ b, besV va other 2 = b := ⟨_, rfl⟩
      have HBL : Hid (b < 18446744073709551616) := Lib.hid (by rw [← hb]; exact bes_lt (by decide) HV.out)
      rw [hb] at HPG HDF ⊢
      clear hb hc10 hc11 hsz
      have S3 := Lib.hid (S2.out.step (Below.refl _ _).drew)
      have d0 := (S3.out.at_ 1 _ rfl).cell 0
      have d1 := (S3.out.at_ 1 _ rfl).cell 1
      have d2 := (S3.out.at_ 1 _ rfl).cell 2
      simp at d0 d1 d2
      clear S2
      go_wp2_with fail
      refine (S3.out.find b 0 0 true HBL.out (by decide)).mono ?_
      rintro e w3 ⟨rfl, hs3⟩
      rw [HPG.out]
      have S4 := Lib.hid (hs3.push (fdL (.leaf x 2 a)).cs 38 rfl)
      clear hs3 S3 d0 d1 d2 HPG
      rw [show fdE (.leaf x 2 a) = 0 from rfl]
      go_wp2_with (first | ((with_reducible refine wl_store_new 38 (.tmp 14) (.tmp 62) rfl ?_ w3 (World.heap w3).size 38 lf0.cs (fdL (.leaf x 2 a)).cs ?_ ?_ ?_ ?_ ?_ ?_ ?_ ?_); exact rfl; exact rfl; exact rfl; exact rfl; exact rfl; exact rfl; exact lrow _; exact lcs_one _))
      have heq := fun W => leaf_same W (fdL (.leaf x 2 a)) (fdL_wf (by decide) (by have := HLE.out.2.2; omega))
      have ha8 : (a : Int).tmod 8 = 0 := by have := HLE.out.2.1; rw [Int.tmod_eq_emod_of_nonneg (by omega)]; omega
      have hal : (a : Int) < 24576 := by have := HLE.out.2.2; omega
      have S5 := Lib.hid (S4.out.step (Below.refl _ _).drew)
      have HPos := Lib.hid ((S5.out.at_ 1 _ rfl).cell 11)
      obtain ⟨J1, hJ1⟩ : ∃ J, joinV (ppnX x) b ((2 : Nat) : Int) = J := ⟨_, rfl⟩
      obtain ⟨J2, hJ2⟩ : ∃ J, joinV (ppnX x) va ((2 : Nat) : Int) = J := ⟨_, rfl⟩
      rw [hJ1, hJ2] at HDF
      refine wp_region_plan [(0, false), (1, false), (2, false), (3, false), (4, false), (5, false), (6, false), (7, false), (8, false), (9, false), (11, false), (12, false), (15, false), (16, false), (17, false), (10, true), (13, true), (14, false), (18, false), (19, false), (20, false), (21, false), (22, false), (23, false), (24, false), (25, false), (26, false), (27, false), (28, false), (29, false), (30, false), (31, false)] (by kernel_rfl) (by kernel_rfl) (fun _ d _ _ _ h => by cases d <;> exact h) ?_
      iterate 3 (refine plan_take (v := ?_) rfl (by kernel_rfl) ?_ ?_; rotate_left; (focus (intro w' hw'; try go_simp; try with_reducible rfl)); simp only [Act.put, List.setIfInBounds_toArray, List.set_cons_zero, List.set_cons_succ])
      refine plan_take rfl (by kernel_rfl) (fun w' h' => run_load_op 38 (.tmp 14) rfl (w3.heap.size) 0 (fdL (.leaf x 2 a)).cs rfl (((S5.out.at_ 0 _ rfl).below h' (S5.out.at_ 0 _ rfl).lt).range) (lrow _)) ?_
      simp only [Act.put, List.setIfInBounds_toArray, List.set_cons_zero, List.set_cons_succ]
      refine plan_take rfl (by kernel_rfl) (fun w' h' => run_load_op 38 (.tmp 10) rfl (w2.heap.size) 0 (fdL (.leaf x 2 a)).cs rfl (((S5.out.at_ 1 _ rfl).below h' (S5.out.at_ 1 _ rfl).lt).range) (lrow _)) ?_
      simp only [Act.put, List.setIfInBounds_toArray, List.set_cons_zero, List.set_cons_succ]
      iterate 3 (refine plan_take (v := ?_) rfl (by kernel_rfl) ?_ ?_; rotate_left; (focus (intro w' hw'; try go_simp; try with_reducible rfl)); simp only [Act.put, List.setIfInBounds_toArray, List.set_cons_zero, List.set_cons_succ])
      refine plan_take rfl (by kernel_rfl) (fun w' h' => run_load_op 38 (.tmp 14) rfl (w3.heap.size) 0 (fdL (.leaf x 2 a)).cs rfl (((S5.out.at_ 0 _ rfl).below h' (S5.out.at_ 0 _ rfl).lt).range) (lrow _)) ?_
      simp only [Act.put, List.setIfInBounds_toArray, List.set_cons_zero, List.set_cons_succ]
      iterate 1 (refine plan_take (v := ?_) rfl (by kernel_rfl) ?_ ?_; rotate_left; (focus (intro w' hw'; try go_simp; try with_reducible rfl)); simp only [Act.put, List.setIfInBounds_toArray, List.set_cons_zero, List.set_cons_succ])
      refine plan_take rfl (by kernel_rfl) (fun w' h' => run_load_op 38 (.tmp 10) rfl (w2.heap.size) 0 (fdL (.leaf x 2 a)).cs rfl (((S5.out.at_ 1 _ rfl).below h' (S5.out.at_ 1 _ rfl).lt).range) (lrow _)) ?_
      simp only [Act.put, List.setIfInBounds_toArray, List.set_cons_zero, List.set_cons_succ]
      iterate 4 (refine plan_take (v := ?_) rfl (by kernel_rfl) ?_ ?_; rotate_left; (focus (intro w' hw'; try go_simp; try with_reducible rfl)); simp only [Act.put, List.setIfInBounds_toArray, List.set_cons_zero, List.set_cons_succ])
      refine plan_call rfl (by kernel_rfl) (by go_simp; exact ⟨rfl, rfl⟩) ?_
      refine (place_c x 2 a b _ HBL.out).mono ?_
      rintro e w' ⟨rfl, hb5⟩
      rw [hJ1]
      refine ⟨_, rfl, hb5, ?_⟩
      simp only [Act.put, List.setIfInBounds_toArray, List.set_cons_zero, List.set_cons_succ]
      refine plan_call rfl (by kernel_rfl) (by go_simp; exact ⟨rfl, rfl⟩) ?_
      refine (place_c x 2 a va _ HV.out).mono ?_
      rintro e w'' ⟨rfl, hb6⟩
      rw [hJ2]
      refine ⟨_, rfl, hb6, ?_⟩
      simp only [Act.put, List.setIfInBounds_toArray, List.set_cons_zero, List.set_cons_succ]
      have hd := HDF.out
      have S6 := (S5.out.step hb5).step hb6
      have hb11 := S6.at_ 1 _ rfl
      have hsp : ∀ W', Ext w'' W' → W'.cell? ⟨w2.heap.size, 11, none⟩ = some (.int .u64 (a : Int)) := fun W' h => (h.cell hb11.lt).trans (hb11.cell 11)
      iterate 15 (refine plan_take (v := ?_) rfl (by kernel_rfl) ?_ ?_; rotate_left; (focus (intro w' hw'; try go_simp; try with_reducible rfl)); simp only [Act.put, List.setIfInBounds_toArray, List.set_cons_zero, List.set_cons_succ])
      refine plan_end ?_
      clear hd hsp ha8 hal heq
      go_wp2_with fail
      go_ret
      exact ⟨rfl, HB0.out.trans (S6.play.bel.mono HB0.out.size)⟩
end Go.Proofs.Ytmnpakfihfjfiaa
