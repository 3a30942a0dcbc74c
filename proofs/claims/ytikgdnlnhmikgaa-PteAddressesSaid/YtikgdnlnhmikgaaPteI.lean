/- The walk of the law PteAddresses. -/
import Derived.Test.YtikgdnlnhmikgaaPteH
import Derived.Test.YtikgdnlnhmikgaaPteF
namespace Go.Proofs.Ytikgdnlnhmikgaa
open Go.RowKit

theorem vpn_parts (va : Nat) : IntKind.u64.wrap (IntKind.u64.wrap (IntKind.u64.wrap (IntKind.u64.wrap ((indexV va 2 : Nat) : Int) * 262144) + IntKind.u64.wrap (IntKind.u64.wrap ((indexV va 1 : Nat) : Int) * 512)) + IntKind.u64.wrap ((indexV va 0 : Nat) : Int)) = ((vpnV va : Nat) : Int) := by
  obtain ⟨h0, h1, h2⟩ := index_unf va
  rw [h0, h1, h2, vpnV]
  simp only [IntKind.wrap_u64]
  omega

/-- An entry's value, its parts named. -/
theorem entry_parts (x : Nat) : ∃ v r w x' u g a d : Bool, ∃ rsw ppn : Int, entryV x = .agg #[.bool v, .bool r, .bool w, .bool x', .bool u, .bool g, .bool a, .bool d, .int .i64 rsw, .int .u64 ppn] := ⟨_, _, _, _, _, _, _, _, _, _, rfl⟩

namespace Law
set_option maxHeartbeats 8000000 in
theorem PteAddresses (a0 : Int) (a1 : Int) (a2 : Int) (w : World) (w0 : (Lit.int .u64 a0).wf = true) (w1 : (Lit.int .u64 a1).wf = true) (w2 : (Lit.int .i64 a2).wf = true) :
    Calls Try.prog 6 #[.int .u64 a0, .int .u64 a1, .int .i64 a2] w fun e w' => e = .returned (.bool true) ∧ Below w.heap.size w w' := by
  obtain ⟨v0, v1⟩ := u64_of_wf w0
  obtain ⟨va, rfl⟩ := Int.eq_ofNat_of_zero_le v0
  have hv : va < 18446744073709551616 := by omega
  have HV := Lib.hid hv
  obtain ⟨p0, p1⟩ := u64_of_wf w1
  obtain ⟨pn, rfl⟩ := Int.eq_ofNat_of_zero_le p0
  have hpn : pn < 18446744073709551616 := by omega
  have HPN := Lib.hid hpn
  clear v0 v1 hv p0 p1 hpn w0 w1 w2
  have hvp := vpn_parts va
  go_enter Try.func6, Try.ntmps6
  go_wp2_with (go_at_call 7; refine (first_ok _).mono ?_; rintro e w1 ⟨rfl, hb1⟩; have HB1 := Lib.hid hb1; clear hb1)
  refine (rget_any va _ HV.out).mono ?_
  rintro e w2 ⟨rfl, hb2⟩
  have HB2 := Lib.hid hb2
  clear hb2
  obtain ⟨v, r, W, x, u, g, a, d, rsw, ppn, hE⟩ := entry_parts va
  rw [hE]
  clear hE
  go_wp2_with fail
  refine (rindex_any va 2 _ HV.out).mono ?_
  rintro e wa ⟨rfl, ha⟩
  have Hha := Lib.hid ha
  clear ha
  go_wp2_with fail
  refine (rindex_any va 1 _ HV.out).mono ?_
  rintro e wb ⟨rfl, hb⟩
  have Hhb := Lib.hid hb
  clear hb
  go_wp2_with fail
  refine (rindex_any va 0 _ HV.out).mono ?_
  rintro e wc ⟨rfl, hc⟩
  have Hhc := Lib.hid hc
  clear hc
  go_wp2_with fail
  have hac := (Hha.out.trans (Hhb.out.mono Hha.out.size)).trans (Hhc.out.mono (Nat.le_trans Hha.out.size Hhb.out.size))
  have hc0 : wc.cell? ⟨w2.heap.size, 0, none⟩ = some (.bool v) := cell_new hac
  have hc1 : wc.cell? ⟨w2.heap.size, 1, none⟩ = some (.bool r) := cell_new hac
  have hc2 : wc.cell? ⟨w2.heap.size, 2, none⟩ = some (.bool W) := cell_new hac
  have hc3 : wc.cell? ⟨w2.heap.size, 3, none⟩ = some (.bool x) := cell_new hac
  have hc4 : wc.cell? ⟨w2.heap.size, 4, none⟩ = some (.bool u) := cell_new hac
  have hc5 : wc.cell? ⟨w2.heap.size, 5, none⟩ = some (.bool g) := cell_new hac
  have hc6 : wc.cell? ⟨w2.heap.size, 6, none⟩ = some (.bool a) := cell_new hac
  have hc7 : wc.cell? ⟨w2.heap.size, 7, none⟩ = some (.bool d) := cell_new hac
  have hc8 : wc.cell? ⟨w2.heap.size, 8, none⟩ = some (.int .i64 rsw) := cell_new hac
  have hc9 : wc.cell? ⟨w2.heap.size, 9, none⟩ = some (.int .u64 ppn) := cell_new hac
  have hl : w2.heap.size < wc.heap.size := cell_lt hc0
  have b1 := HB1.out
  have b2 := b1.trans (HB2.out.mono b1.size)
  have b3 := (b2.alloc b2.size _).trans (hac.mono (Nat.le_trans b2.size (by simp)))
  have HBT := Lib.hid b3
  clear b1 b2 b3 hac Hha Hhb Hhc HB1 HB2
  refine wp_region_plan [(0, false), (2, false), (1, true), (3, true), (4, false), (5, false), (6, false), (7, false), (9, false), (10, false), (8, true), (11, true), (12, false), (13, false), (14, false), (15, false), (17, false), (16, true), (18, true), (19, false), (20, false), (21, false), (22, false), (23, false), (24, false), (26, false), (27, false), (28, false), (25, true), (29, true), (30, false), (31, false), (32, false), (33, false), (35, false), (34, true), (36, false), (37, false), (38, false), (39, false), (41, false), (42, false), (40, true), (43, false), (44, false), (45, false), (46, false), (47, false), (48, false), (49, false), (50, false), (52, false), (53, false), (51, true), (54, false), (55, false), (56, false), (57, false), (58, false), (59, false), (60, false), (61, false), (62, false), (63, false), (64, false), (65, false), (66, false)] (by kernel_rfl) (by kernel_rfl) (fun _ d _ _ _ h => by cases d <;> exact h) ?_
  iterate 2 (refine plan_take (v := ?_) rfl (by kernel_rfl) ?_ ?_; rotate_left; (focus (intro w' hw'; go_simp; try with_reducible rfl)); simp only [Act.put, List.setIfInBounds_toArray, List.set_cons_zero, List.set_cons_succ])
  refine plan_call rfl (by kernel_rfl) (by go_simp; exact ⟨rfl, rfl⟩) ?_
  refine (canon_any _ _ HV.out).mono ?_
  rintro e w' ⟨rfl, rfl⟩
  refine ⟨_, rfl, Ext.refl _, ?_⟩
  simp only [Act.put, List.setIfInBounds_toArray, List.set_cons_zero, List.set_cons_succ]
  refine plan_call rfl (by kernel_rfl) (by go_simp; exact ⟨rfl, rfl⟩) ?_
  refine (rcanon_any _ _ HV.out).mono ?_
  rintro e w' ⟨rfl, rfl⟩
  refine ⟨_, rfl, Ext.refl _, ?_⟩
  simp only [Act.put, List.setIfInBounds_toArray, List.set_cons_zero, List.set_cons_succ]
  have hself : ((canonB va == canonB va) : Bool) = true := beq_self_eq_true _
  iterate 6 (refine plan_take (v := ?_) rfl (by kernel_rfl) ?_ ?_; rotate_left; (focus (intro w' hw'; go_simp; try with_reducible rfl)); simp only [Act.put, List.setIfInBounds_toArray, List.set_cons_zero, List.set_cons_succ])
  refine plan_call rfl (by kernel_rfl) (by go_simp; exact ⟨rfl, rfl⟩) ?_
  refine (index_any _ _ _ HV.out).mono ?_
  rintro e w' ⟨rfl, rfl⟩
  refine ⟨_, rfl, Ext.refl _, ?_⟩
  simp only [Act.put, List.setIfInBounds_toArray, List.set_cons_zero, List.set_cons_succ]
  refine plan_call rfl (by kernel_rfl) (by go_simp; exact ⟨rfl, rfl⟩) ?_
  refine (rindex_any _ _ _ HV.out).mono ?_
  rintro e wd ⟨rfl, hd⟩
  have Hhd := Lib.hid hd
  refine ⟨_, rfl, hd, ?_⟩
  simp only [Act.put, List.setIfInBounds_toArray, List.set_cons_zero, List.set_cons_succ]
  clear hd
  iterate 5 (refine plan_take (v := ?_) rfl (by kernel_rfl) ?_ ?_; rotate_left; (focus (intro w' hw'; go_simp; try with_reducible rfl)); simp only [Act.put, List.setIfInBounds_toArray, List.set_cons_zero, List.set_cons_succ])
  refine plan_call rfl (by kernel_rfl) (by go_simp; exact ⟨rfl, rfl⟩) ?_
  refine (span_any _ _).mono ?_
  rintro e w' ⟨rfl, rfl⟩
  refine ⟨_, rfl, Ext.refl _, ?_⟩
  simp only [Act.put, List.setIfInBounds_toArray, List.set_cons_zero, List.set_cons_succ]
  refine plan_call rfl (by kernel_rfl) (by go_simp; exact ⟨rfl, rfl⟩) ?_
  refine (rspan_any _ _).mono ?_
  rintro e w' ⟨rfl, rfl⟩
  refine ⟨_, rfl, Ext.refl _, ?_⟩
  simp only [Act.put, List.setIfInBounds_toArray, List.set_cons_zero, List.set_cons_succ]
  iterate 9 (refine plan_take (v := ?_) rfl (by kernel_rfl) ?_ ?_; rotate_left; (focus (intro w' hw'; go_simp; try with_reducible rfl)); simp only [Act.put, List.setIfInBounds_toArray, List.set_cons_zero, List.set_cons_succ])
  refine plan_call rfl (by kernel_rfl) (by go_simp; exact ⟨rfl, rfl⟩) ?_
  refine (join_any _ _ _ _ HPN.out HV.out).mono ?_
  rintro e w' ⟨rfl, rfl⟩
  refine ⟨_, rfl, Ext.refl _, ?_⟩
  simp only [Act.put, List.setIfInBounds_toArray, List.set_cons_zero, List.set_cons_succ]
  refine plan_call rfl (by kernel_rfl) (by go_simp; exact ⟨rfl, rfl⟩) ?_
  refine (rjoin_any _ _ _ _ HPN.out HV.out).mono ?_
  rintro e we ⟨rfl, he⟩
  have Hhe := Lib.hid he
  refine ⟨_, rfl, he, ?_⟩
  simp only [Act.put, List.setIfInBounds_toArray, List.set_cons_zero, List.set_cons_succ]
  clear he
  iterate 5 (refine plan_take (v := ?_) rfl (by kernel_rfl) ?_ ?_; rotate_left; (focus (intro w' hw'; go_simp; try with_reducible rfl)); simp only [Act.put, List.setIfInBounds_toArray, List.set_cons_zero, List.set_cons_succ])
  refine plan_call rfl (by kernel_rfl) (by go_simp; exact ⟨rfl, rfl⟩) ?_
  refine (vpn_any _ _ HV.out).mono ?_
  rintro e w' ⟨rfl, rfl⟩
  refine ⟨_, rfl, Ext.refl _, ?_⟩
  simp only [Act.put, List.setIfInBounds_toArray, List.set_cons_zero, List.set_cons_succ]
  have hbe := Hhd.out.trans (Hhe.out.mono Hhd.out.size)
  have hd0 : we.cell? ⟨w2.heap.size, 0, none⟩ = some (.bool v) := (hbe.cell (p := ⟨w2.heap.size, 0, none⟩) hl).trans hc0
  have hd1 : we.cell? ⟨w2.heap.size, 1, none⟩ = some (.bool r) := (hbe.cell (p := ⟨w2.heap.size, 1, none⟩) hl).trans hc1
  have hd2 : we.cell? ⟨w2.heap.size, 2, none⟩ = some (.bool W) := (hbe.cell (p := ⟨w2.heap.size, 2, none⟩) hl).trans hc2
  have hd3 : we.cell? ⟨w2.heap.size, 3, none⟩ = some (.bool x) := (hbe.cell (p := ⟨w2.heap.size, 3, none⟩) hl).trans hc3
  have hd4 : we.cell? ⟨w2.heap.size, 4, none⟩ = some (.bool u) := (hbe.cell (p := ⟨w2.heap.size, 4, none⟩) hl).trans hc4
  have hd5 : we.cell? ⟨w2.heap.size, 5, none⟩ = some (.bool g) := (hbe.cell (p := ⟨w2.heap.size, 5, none⟩) hl).trans hc5
  have hd6 : we.cell? ⟨w2.heap.size, 6, none⟩ = some (.bool a) := (hbe.cell (p := ⟨w2.heap.size, 6, none⟩) hl).trans hc6
  have hd7 : we.cell? ⟨w2.heap.size, 7, none⟩ = some (.bool d) := (hbe.cell (p := ⟨w2.heap.size, 7, none⟩) hl).trans hc7
  have hd8 : we.cell? ⟨w2.heap.size, 8, none⟩ = some (.int .i64 rsw) := (hbe.cell (p := ⟨w2.heap.size, 8, none⟩) hl).trans hc8
  have hd9 : we.cell? ⟨w2.heap.size, 9, none⟩ = some (.int .u64 ppn) := (hbe.cell (p := ⟨w2.heap.size, 9, none⟩) hl).trans hc9
  have hl2 : w2.heap.size < we.heap.size := cell_lt hd0
  have HBE := Lib.hid hbe
  clear hbe hc0 hc1 hc2 hc3 hc4 hc5 hc6 hc7 hc8 hc9
  have hs0 := fun W' (h : Ext we W') => (h.cell (p := ⟨w2.heap.size, 0, none⟩) hl2).trans hd0
  have hs1 := fun W' (h : Ext we W') => (h.cell (p := ⟨w2.heap.size, 1, none⟩) hl2).trans hd1
  have hs2 := fun W' (h : Ext we W') => (h.cell (p := ⟨w2.heap.size, 2, none⟩) hl2).trans hd2
  have hs3 := fun W' (h : Ext we W') => (h.cell (p := ⟨w2.heap.size, 3, none⟩) hl2).trans hd3
  have hs4 := fun W' (h : Ext we W') => (h.cell (p := ⟨w2.heap.size, 4, none⟩) hl2).trans hd4
  have hs5 := fun W' (h : Ext we W') => (h.cell (p := ⟨w2.heap.size, 5, none⟩) hl2).trans hd5
  have hs6 := fun W' (h : Ext we W') => (h.cell (p := ⟨w2.heap.size, 6, none⟩) hl2).trans hd6
  have hs7 := fun W' (h : Ext we W') => (h.cell (p := ⟨w2.heap.size, 7, none⟩) hl2).trans hd7
  have hs8 := fun W' (h : Ext we W') => (h.cell (p := ⟨w2.heap.size, 8, none⟩) hl2).trans hd8
  have hs9 := fun W' (h : Ext we W') => (h.cell (p := ⟨w2.heap.size, 9, none⟩) hl2).trans hd9
  iterate 6 (refine plan_take (v := ?_) rfl (by kernel_rfl) ?_ ?_; rotate_left; (focus (intro w' hw'; go_simp; try with_reducible rfl)); simp only [Act.put, List.setIfInBounds_toArray, List.set_cons_zero, List.set_cons_succ])
  refine plan_call rfl (by kernel_rfl) (by go_simp; exact ⟨rfl, rfl⟩) ?_
  refine (leaf_any _ _ _ _ _ _ _ _ _ _ _).mono ?_
  rintro e wf ⟨rfl, hf⟩
  have Hhf := Lib.hid hf
  refine ⟨_, rfl, hf, ?_⟩
  simp only [Act.put, List.setIfInBounds_toArray, List.set_cons_zero, List.set_cons_succ]
  clear hf
  have hle := Hhf.out
  have he0 : wf.cell? ⟨w2.heap.size, 0, none⟩ = some (.bool v) := (hle.cell (p := ⟨w2.heap.size, 0, none⟩) hl2).trans hd0
  have he1 : wf.cell? ⟨w2.heap.size, 1, none⟩ = some (.bool r) := (hle.cell (p := ⟨w2.heap.size, 1, none⟩) hl2).trans hd1
  have he2 : wf.cell? ⟨w2.heap.size, 2, none⟩ = some (.bool W) := (hle.cell (p := ⟨w2.heap.size, 2, none⟩) hl2).trans hd2
  have he3 : wf.cell? ⟨w2.heap.size, 3, none⟩ = some (.bool x) := (hle.cell (p := ⟨w2.heap.size, 3, none⟩) hl2).trans hd3
  have he4 : wf.cell? ⟨w2.heap.size, 4, none⟩ = some (.bool u) := (hle.cell (p := ⟨w2.heap.size, 4, none⟩) hl2).trans hd4
  have he5 : wf.cell? ⟨w2.heap.size, 5, none⟩ = some (.bool g) := (hle.cell (p := ⟨w2.heap.size, 5, none⟩) hl2).trans hd5
  have he6 : wf.cell? ⟨w2.heap.size, 6, none⟩ = some (.bool a) := (hle.cell (p := ⟨w2.heap.size, 6, none⟩) hl2).trans hd6
  have he7 : wf.cell? ⟨w2.heap.size, 7, none⟩ = some (.bool d) := (hle.cell (p := ⟨w2.heap.size, 7, none⟩) hl2).trans hd7
  have he8 : wf.cell? ⟨w2.heap.size, 8, none⟩ = some (.int .i64 rsw) := (hle.cell (p := ⟨w2.heap.size, 8, none⟩) hl2).trans hd8
  have he9 : wf.cell? ⟨w2.heap.size, 9, none⟩ = some (.int .u64 ppn) := (hle.cell (p := ⟨w2.heap.size, 9, none⟩) hl2).trans hd9
  have hl3 : w2.heap.size < wf.heap.size := cell_lt he0
  clear hle hs0 hs1 hs2 hs3 hs4 hs5 hs6 hs7 hs8 hs9 hd0 hd1 hd2 hd3 hd4 hd5 hd6 hd7 hd8 hd9
  have hs0 := fun W' (h : Ext wf W') => (h.cell (p := ⟨w2.heap.size, 0, none⟩) hl3).trans he0
  have hs1 := fun W' (h : Ext wf W') => (h.cell (p := ⟨w2.heap.size, 1, none⟩) hl3).trans he1
  have hs2 := fun W' (h : Ext wf W') => (h.cell (p := ⟨w2.heap.size, 2, none⟩) hl3).trans he2
  have hs3 := fun W' (h : Ext wf W') => (h.cell (p := ⟨w2.heap.size, 3, none⟩) hl3).trans he3
  have hs4 := fun W' (h : Ext wf W') => (h.cell (p := ⟨w2.heap.size, 4, none⟩) hl3).trans he4
  have hs5 := fun W' (h : Ext wf W') => (h.cell (p := ⟨w2.heap.size, 5, none⟩) hl3).trans he5
  have hs6 := fun W' (h : Ext wf W') => (h.cell (p := ⟨w2.heap.size, 6, none⟩) hl3).trans he6
  have hs7 := fun W' (h : Ext wf W') => (h.cell (p := ⟨w2.heap.size, 7, none⟩) hl3).trans he7
  have hs8 := fun W' (h : Ext wf W') => (h.cell (p := ⟨w2.heap.size, 8, none⟩) hl3).trans he8
  have hs9 := fun W' (h : Ext wf W') => (h.cell (p := ⟨w2.heap.size, 9, none⟩) hl3).trans he9
  have hs := HBT.out.drew.trans ((HBE.out.trans (Hhf.out.mono HBE.out.size)).mono HBT.out.size)
  have HS := Lib.hid hs
  clear hs HBE Hhd Hhe Hhf HBT
  cases r
  · cases x
    · try simp only [Bool.true_or, Bool.false_or, Bool.or_true, Bool.or_false, Bool.and_true, Bool.and_false, Bool.not_true, Bool.not_false, Bool.false_and, Bool.true_and]
      iterate 10 (refine plan_take (v := ?_) rfl (by kernel_rfl) ?_ ?_; rotate_left; (focus (intro w' hw'; go_simp; try with_reducible rfl)); simp only [Act.put, List.setIfInBounds_toArray, List.set_cons_zero, List.set_cons_succ])
      refine plan_call rfl (by kernel_rfl) (by go_simp; exact ⟨rfl, rfl⟩) ?_
      refine (right_any _ _ _ _ _ _ _ _ _ _ _).mono ?_
      rintro e wg ⟨rfl, hg⟩
      have HG := Lib.hid hg
      refine ⟨_, rfl, hg, ?_⟩
      simp only [Act.put, List.setIfInBounds_toArray, List.set_cons_zero, List.set_cons_succ]
      clear hg
      have hlg := HG.out
      have hf0 : wg.cell? ⟨w2.heap.size, 0, none⟩ = _ := (hlg.cell (p := ⟨w2.heap.size, 0, none⟩) hl3).trans he0
      have hf1 : wg.cell? ⟨w2.heap.size, 1, none⟩ = _ := (hlg.cell (p := ⟨w2.heap.size, 1, none⟩) hl3).trans he1
      have hf2 : wg.cell? ⟨w2.heap.size, 2, none⟩ = _ := (hlg.cell (p := ⟨w2.heap.size, 2, none⟩) hl3).trans he2
      have hl4 : w2.heap.size < wg.heap.size := cell_lt hf0
      clear hlg he0 he1 he2 he3 he4 he5 he6 he7 he8 he9 hs0 hs1 hs2 hs3 hs4 hs5 hs6 hs7 hs8 hs9
      have hs0 := fun W' (h : Ext wg W') => (h.cell (p := ⟨w2.heap.size, 0, none⟩) hl4).trans hf0
      have hs1 := fun W' (h : Ext wg W') => (h.cell (p := ⟨w2.heap.size, 1, none⟩) hl4).trans hf1
      have hs2 := fun W' (h : Ext wg W') => (h.cell (p := ⟨w2.heap.size, 2, none⟩) hl4).trans hf2
      cases v
      · try simp only [Bool.true_or, Bool.false_or, Bool.or_true, Bool.or_false, Bool.and_true, Bool.and_false, Bool.not_true, Bool.not_false, Bool.false_and, Bool.true_and]
        iterate 1 (refine plan_take (v := ?_) rfl (by kernel_rfl) ?_ ?_; rotate_left; (focus (intro w' hw'; go_simp; try with_reducible rfl)); simp only [Act.put, List.setIfInBounds_toArray, List.set_cons_zero, List.set_cons_succ])
        iterate 8 (refine plan_skip rfl (by kernel_rfl) ?_; simp only [Act.put, List.setIfInBounds_toArray, List.set_cons_zero, List.set_cons_succ])
        iterate 4 (refine plan_take (v := ?_) rfl (by kernel_rfl) ?_ ?_; rotate_left; (focus (intro w' hw'; go_simp; try with_reducible rfl)); simp only [Act.put, List.setIfInBounds_toArray, List.set_cons_zero, List.set_cons_succ])
        refine plan_end ?_
        clear hs0 hs1 hs2
        go_wp2
        go_ret
        exact ⟨rfl, HS.out.trans (HG.out.mono HS.out.size)⟩
      · cases W
        · try simp only [Bool.true_or, Bool.false_or, Bool.or_true, Bool.or_false, Bool.and_true, Bool.and_false, Bool.not_true, Bool.not_false, Bool.false_and, Bool.true_and]
          iterate 4 (refine plan_take (v := ?_) rfl (by kernel_rfl) ?_ ?_; rotate_left; (focus (intro w' hw'; go_simp; try with_reducible rfl)); simp only [Act.put, List.setIfInBounds_toArray, List.set_cons_zero, List.set_cons_succ])
          iterate 3 (refine plan_skip rfl (by kernel_rfl) ?_; simp only [Act.put, List.setIfInBounds_toArray, List.set_cons_zero, List.set_cons_succ])
          iterate 6 (refine plan_take (v := ?_) rfl (by kernel_rfl) ?_ ?_; rotate_left; (focus (intro w' hw'; go_simp; try with_reducible rfl)); simp only [Act.put, List.setIfInBounds_toArray, List.set_cons_zero, List.set_cons_succ])
          refine plan_end ?_
          clear hs0 hs1 hs2
          go_wp2
          go_ret
          exact ⟨rfl, HS.out.trans (HG.out.mono HS.out.size)⟩
        · try simp only [Bool.true_or, Bool.false_or, Bool.or_true, Bool.or_false, Bool.and_true, Bool.and_false, Bool.not_true, Bool.not_false, Bool.false_and, Bool.true_and]
          iterate 4 (refine plan_take (v := ?_) rfl (by kernel_rfl) ?_ ?_; rotate_left; (focus (intro w' hw'; go_simp; try with_reducible rfl)); simp only [Act.put, List.setIfInBounds_toArray, List.set_cons_zero, List.set_cons_succ])
          iterate 3 (refine plan_take (v := ?_) rfl (by kernel_rfl) ?_ ?_; rotate_left; (focus (intro w' hw'; go_simp; try with_reducible rfl)); simp only [Act.put, List.setIfInBounds_toArray, List.set_cons_zero, List.set_cons_succ])
          iterate 6 (refine plan_take (v := ?_) rfl (by kernel_rfl) ?_ ?_; rotate_left; (focus (intro w' hw'; go_simp; try with_reducible rfl)); simp only [Act.put, List.setIfInBounds_toArray, List.set_cons_zero, List.set_cons_succ])
          refine plan_end ?_
          clear hs0 hs1 hs2
          go_wp2
          go_ret
          exact ⟨rfl, HS.out.trans (HG.out.mono HS.out.size)⟩
    · try simp only [Bool.true_or, Bool.false_or, Bool.or_true, Bool.or_false, Bool.and_true, Bool.and_false, Bool.not_true, Bool.not_false, Bool.false_and, Bool.true_and]
      iterate 10 (refine plan_take (v := ?_) rfl (by kernel_rfl) ?_ ?_; rotate_left; (focus (intro w' hw'; go_simp; try with_reducible rfl)); simp only [Act.put, List.setIfInBounds_toArray, List.set_cons_zero, List.set_cons_succ])
      refine plan_call rfl (by kernel_rfl) (by go_simp; exact ⟨rfl, rfl⟩) ?_
      refine (right_any _ _ _ _ _ _ _ _ _ _ _).mono ?_
      rintro e wg ⟨rfl, hg⟩
      have HG := Lib.hid hg
      refine ⟨_, rfl, hg, ?_⟩
      simp only [Act.put, List.setIfInBounds_toArray, List.set_cons_zero, List.set_cons_succ]
      clear hg
      have hlg := HG.out
      have hf0 : wg.cell? ⟨w2.heap.size, 0, none⟩ = _ := (hlg.cell (p := ⟨w2.heap.size, 0, none⟩) hl3).trans he0
      have hf1 : wg.cell? ⟨w2.heap.size, 1, none⟩ = _ := (hlg.cell (p := ⟨w2.heap.size, 1, none⟩) hl3).trans he1
      have hf2 : wg.cell? ⟨w2.heap.size, 2, none⟩ = _ := (hlg.cell (p := ⟨w2.heap.size, 2, none⟩) hl3).trans he2
      have hl4 : w2.heap.size < wg.heap.size := cell_lt hf0
      clear hlg he0 he1 he2 he3 he4 he5 he6 he7 he8 he9 hs0 hs1 hs2 hs3 hs4 hs5 hs6 hs7 hs8 hs9
      have hs0 := fun W' (h : Ext wg W') => (h.cell (p := ⟨w2.heap.size, 0, none⟩) hl4).trans hf0
      have hs1 := fun W' (h : Ext wg W') => (h.cell (p := ⟨w2.heap.size, 1, none⟩) hl4).trans hf1
      have hs2 := fun W' (h : Ext wg W') => (h.cell (p := ⟨w2.heap.size, 2, none⟩) hl4).trans hf2
      cases v
      · try simp only [Bool.true_or, Bool.false_or, Bool.or_true, Bool.or_false, Bool.and_true, Bool.and_false, Bool.not_true, Bool.not_false, Bool.false_and, Bool.true_and]
        iterate 1 (refine plan_take (v := ?_) rfl (by kernel_rfl) ?_ ?_; rotate_left; (focus (intro w' hw'; go_simp; try with_reducible rfl)); simp only [Act.put, List.setIfInBounds_toArray, List.set_cons_zero, List.set_cons_succ])
        iterate 8 (refine plan_skip rfl (by kernel_rfl) ?_; simp only [Act.put, List.setIfInBounds_toArray, List.set_cons_zero, List.set_cons_succ])
        iterate 4 (refine plan_take (v := ?_) rfl (by kernel_rfl) ?_ ?_; rotate_left; (focus (intro w' hw'; go_simp; try with_reducible rfl)); simp only [Act.put, List.setIfInBounds_toArray, List.set_cons_zero, List.set_cons_succ])
        refine plan_end ?_
        clear hs0 hs1 hs2
        go_wp2
        go_ret
        exact ⟨rfl, HS.out.trans (HG.out.mono HS.out.size)⟩
      · cases W
        · try simp only [Bool.true_or, Bool.false_or, Bool.or_true, Bool.or_false, Bool.and_true, Bool.and_false, Bool.not_true, Bool.not_false, Bool.false_and, Bool.true_and]
          iterate 4 (refine plan_take (v := ?_) rfl (by kernel_rfl) ?_ ?_; rotate_left; (focus (intro w' hw'; go_simp; try with_reducible rfl)); simp only [Act.put, List.setIfInBounds_toArray, List.set_cons_zero, List.set_cons_succ])
          iterate 3 (refine plan_skip rfl (by kernel_rfl) ?_; simp only [Act.put, List.setIfInBounds_toArray, List.set_cons_zero, List.set_cons_succ])
          iterate 6 (refine plan_take (v := ?_) rfl (by kernel_rfl) ?_ ?_; rotate_left; (focus (intro w' hw'; go_simp; try with_reducible rfl)); simp only [Act.put, List.setIfInBounds_toArray, List.set_cons_zero, List.set_cons_succ])
          refine plan_end ?_
          clear hs0 hs1 hs2
          go_wp2
          go_ret
          exact ⟨rfl, HS.out.trans (HG.out.mono HS.out.size)⟩
        · try simp only [Bool.true_or, Bool.false_or, Bool.or_true, Bool.or_false, Bool.and_true, Bool.and_false, Bool.not_true, Bool.not_false, Bool.false_and, Bool.true_and]
          iterate 4 (refine plan_take (v := ?_) rfl (by kernel_rfl) ?_ ?_; rotate_left; (focus (intro w' hw'; go_simp; try with_reducible rfl)); simp only [Act.put, List.setIfInBounds_toArray, List.set_cons_zero, List.set_cons_succ])
          iterate 3 (refine plan_take (v := ?_) rfl (by kernel_rfl) ?_ ?_; rotate_left; (focus (intro w' hw'; go_simp; try with_reducible rfl)); simp only [Act.put, List.setIfInBounds_toArray, List.set_cons_zero, List.set_cons_succ])
          iterate 6 (refine plan_take (v := ?_) rfl (by kernel_rfl) ?_ ?_; rotate_left; (focus (intro w' hw'; go_simp; try with_reducible rfl)); simp only [Act.put, List.setIfInBounds_toArray, List.set_cons_zero, List.set_cons_succ])
          refine plan_end ?_
          clear hs0 hs1 hs2
          go_wp2
          go_ret
          exact ⟨rfl, HS.out.trans (HG.out.mono HS.out.size)⟩
  · try simp only [Bool.true_or, Bool.false_or, Bool.or_true, Bool.or_false, Bool.and_true, Bool.and_false, Bool.not_true, Bool.not_false, Bool.false_and, Bool.true_and]
    iterate 1 (refine plan_take (v := ?_) rfl (by kernel_rfl) ?_ ?_; rotate_left; (focus (intro w' hw'; go_simp; try with_reducible rfl)); simp only [Act.put, List.setIfInBounds_toArray, List.set_cons_zero, List.set_cons_succ])
    iterate 2 (refine plan_skip rfl (by kernel_rfl) ?_; simp only [Act.put, List.setIfInBounds_toArray, List.set_cons_zero, List.set_cons_succ])
    iterate 7 (refine plan_take (v := ?_) rfl (by kernel_rfl) ?_ ?_; rotate_left; (focus (intro w' hw'; go_simp; try with_reducible rfl)); simp only [Act.put, List.setIfInBounds_toArray, List.set_cons_zero, List.set_cons_succ])
    refine plan_call rfl (by kernel_rfl) (by go_simp; exact ⟨rfl, rfl⟩) ?_
    refine (right_any _ _ _ _ _ _ _ _ _ _ _).mono ?_
    rintro e wg ⟨rfl, hg⟩
    have HG := Lib.hid hg
    refine ⟨_, rfl, hg, ?_⟩
    simp only [Act.put, List.setIfInBounds_toArray, List.set_cons_zero, List.set_cons_succ]
    clear hg
    have hlg := HG.out
    have hf0 : wg.cell? ⟨w2.heap.size, 0, none⟩ = _ := (hlg.cell (p := ⟨w2.heap.size, 0, none⟩) hl3).trans he0
    have hf1 : wg.cell? ⟨w2.heap.size, 1, none⟩ = _ := (hlg.cell (p := ⟨w2.heap.size, 1, none⟩) hl3).trans he1
    have hf2 : wg.cell? ⟨w2.heap.size, 2, none⟩ = _ := (hlg.cell (p := ⟨w2.heap.size, 2, none⟩) hl3).trans he2
    have hl4 : w2.heap.size < wg.heap.size := cell_lt hf0
    clear hlg he0 he1 he2 he3 he4 he5 he6 he7 he8 he9 hs0 hs1 hs2 hs3 hs4 hs5 hs6 hs7 hs8 hs9
    have hs0 := fun W' (h : Ext wg W') => (h.cell (p := ⟨w2.heap.size, 0, none⟩) hl4).trans hf0
    have hs1 := fun W' (h : Ext wg W') => (h.cell (p := ⟨w2.heap.size, 1, none⟩) hl4).trans hf1
    have hs2 := fun W' (h : Ext wg W') => (h.cell (p := ⟨w2.heap.size, 2, none⟩) hl4).trans hf2
    cases v
    · try simp only [Bool.true_or, Bool.false_or, Bool.or_true, Bool.or_false, Bool.and_true, Bool.and_false, Bool.not_true, Bool.not_false, Bool.false_and, Bool.true_and]
      iterate 1 (refine plan_take (v := ?_) rfl (by kernel_rfl) ?_ ?_; rotate_left; (focus (intro w' hw'; go_simp; try with_reducible rfl)); simp only [Act.put, List.setIfInBounds_toArray, List.set_cons_zero, List.set_cons_succ])
      iterate 8 (refine plan_skip rfl (by kernel_rfl) ?_; simp only [Act.put, List.setIfInBounds_toArray, List.set_cons_zero, List.set_cons_succ])
      iterate 4 (refine plan_take (v := ?_) rfl (by kernel_rfl) ?_ ?_; rotate_left; (focus (intro w' hw'; go_simp; try with_reducible rfl)); simp only [Act.put, List.setIfInBounds_toArray, List.set_cons_zero, List.set_cons_succ])
      refine plan_end ?_
      clear hs0 hs1 hs2
      go_wp2
      go_ret
      exact ⟨rfl, HS.out.trans (HG.out.mono HS.out.size)⟩
    · cases W
      · try simp only [Bool.true_or, Bool.false_or, Bool.or_true, Bool.or_false, Bool.and_true, Bool.and_false, Bool.not_true, Bool.not_false, Bool.false_and, Bool.true_and]
        iterate 4 (refine plan_take (v := ?_) rfl (by kernel_rfl) ?_ ?_; rotate_left; (focus (intro w' hw'; go_simp; try with_reducible rfl)); simp only [Act.put, List.setIfInBounds_toArray, List.set_cons_zero, List.set_cons_succ])
        iterate 3 (refine plan_skip rfl (by kernel_rfl) ?_; simp only [Act.put, List.setIfInBounds_toArray, List.set_cons_zero, List.set_cons_succ])
        iterate 6 (refine plan_take (v := ?_) rfl (by kernel_rfl) ?_ ?_; rotate_left; (focus (intro w' hw'; go_simp; try with_reducible rfl)); simp only [Act.put, List.setIfInBounds_toArray, List.set_cons_zero, List.set_cons_succ])
        refine plan_end ?_
        clear hs0 hs1 hs2
        go_wp2
        go_ret
        exact ⟨rfl, HS.out.trans (HG.out.mono HS.out.size)⟩
      · try simp only [Bool.true_or, Bool.false_or, Bool.or_true, Bool.or_false, Bool.and_true, Bool.and_false, Bool.not_true, Bool.not_false, Bool.false_and, Bool.true_and]
        iterate 4 (refine plan_take (v := ?_) rfl (by kernel_rfl) ?_ ?_; rotate_left; (focus (intro w' hw'; go_simp; try with_reducible rfl)); simp only [Act.put, List.setIfInBounds_toArray, List.set_cons_zero, List.set_cons_succ])
        iterate 3 (refine plan_take (v := ?_) rfl (by kernel_rfl) ?_ ?_; rotate_left; (focus (intro w' hw'; go_simp; try with_reducible rfl)); simp only [Act.put, List.setIfInBounds_toArray, List.set_cons_zero, List.set_cons_succ])
        iterate 6 (refine plan_take (v := ?_) rfl (by kernel_rfl) ?_ ?_; rotate_left; (focus (intro w' hw'; go_simp; try with_reducible rfl)); simp only [Act.put, List.setIfInBounds_toArray, List.set_cons_zero, List.set_cons_succ])
        refine plan_end ?_
        clear hs0 hs1 hs2
        go_wp2
        go_ret
        exact ⟨rfl, HS.out.trans (HG.out.mono HS.out.size)⟩
end Law
end Go.Proofs.Ytikgdnlnhmikgaa
