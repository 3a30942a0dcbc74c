/- Merged texts: TbC. -/
import Derived.Test.YtbgagmpinekhpaaTm6
import Derived.Test.YtbgagmpinekhpaaPlanI
import Derived.Deep.CutBlock
/- TablePlays: tables answer every script as the reference does. No condition. -/
namespace Go.Proofs.Ytbgagmpinekhpaa
open Go.RowKit

def PlOK (c : TC) (x : XS) (k : Nat) : Prop := x.k ≤ c.N ∧ x.L.length ≤ k ∧ x.T.length ≤ 2 * k
theorem PlOK.map {c : TC} {x : XS} {k : Nat} (h : PlOK c x k) (va : Nat) (l : Int) (p : Pte) : PlOK c (mapL c x va l p).2 (k + 1) := by
  obtain ⟨h1, h2, h3⟩ := h
  obtain ⟨r1, r2, r3⟩ := mapL_spec c x va l p h1
  refine ⟨r2, ?_, by omega⟩
  rcases r1 with ⟨_, r, _⟩ | ⟨_, r⟩
  · rw [r, List.length_append]; simp only [List.length_cons, List.length_nil]; omega
  · rw [r]; omega
theorem PlOK.change {c : TC} {x : XS} {k : Nat} (h : PlOK c x k) (va : Nat) (p : Pte) : PlOK c (changeL x va p).2 (k + 1) := by
  obtain ⟨h1, h2, h3⟩ := h
  unfold changeL
  split
  · exact ⟨h1, by show x.L.length ≤ _; omega, by show x.T.length ≤ _; omega⟩
  · split
    · exact ⟨h1, by show x.L.length ≤ _; omega, by show x.T.length ≤ _; omega⟩
    · split
      · exact ⟨h1, by show (List.set _ _ _).length ≤ _; rw [List.length_set]; omega, by show x.T.length ≤ _; omega⟩
      · exact ⟨h1, by show x.L.length ≤ _; omega, by show x.T.length ≤ _; omega⟩
theorem PlOK.unmap {c : TC} {x : XS} {k : Nat} (h : PlOK c x k) (va : Nat) : PlOK c (unmapL x va).2.2 (k + 1) := by
  obtain ⟨h1, h2, h3⟩ := h
  unfold unmapL
  split
  · exact ⟨h1, by show x.L.length ≤ _; omega, by show x.T.length ≤ _; omega⟩
  · split
    · exact ⟨h1, by show x.L.length ≤ _; omega, by show x.T.length ≤ _; omega⟩
    · exact ⟨h1, by show (List.eraseIdx _ _).length ≤ _; rw [List.length_eraseIdx]; split <;> omega, by show x.T.length ≤ _; omega⟩
theorem PlOK.more {c : TC} {x : XS} {k : Nat} (h : PlOK c x k) : PlOK c x (k + 1) := ⟨h.1, by have := h.2.1; omega, by have := h.2.2; omega⟩
theorem PlOK.roomy {c : TC} {x : XS} {k : Nat} (h : PlOK c x k) (hk : k ≤ 41) : Roomy x := ⟨by have := h.2.1; omega, by have := h.2.2; omega⟩
theorem unmap_wf {c : TC} {σ : TS} {x : XS} (h : Like c σ x) (va : Nat) : PteWf (unmapL x va).1 := by
  unfold unmapL
  split
  · exact pte0_wf
  · split
    · exact pte0_wf
    · rename_i m hm
      exact (h.inv.pg m (List.mem_of_getElem? hm)).2.2.2.2.2
theorem got_wf {c : TC} {σ : TS} {x : XS} {j : Nat} {m : Mp} (h : Like c σ x) (hm : x.L[j]? = some m) : PteWf m.p ∧ m.lev ≤ 2 :=
  ⟨(h.inv.pg m (List.mem_of_getElem? hm)).2.2.2.2.2, (h.inv.pg m (List.mem_of_getElem? hm)).1⟩
set_option maxRecDepth 100000 in
set_option maxHeartbeats 16000000 in
theorem plays_walk (n mem : Nat) (A : Option Addr) (len cap : Nat) (W : World) (hO : 0 < len → ∃ b o, A = some ⟨b, o, none⟩ ∧ b < W.heap.size ∧ ∀ i, i < len → OpR W b (o + i * 13)) (hlen : len ≤ 9223372036854775807) (hn : n < 256) (hm : mem < 256) :
    Calls Try.prog 4 #[.int .u8 (n : Int), .int .u8 (mem : Int), .slice A len cap] W fun e w' => e = .returned (.bool true) ∧ Below W.heap.size W w' := by
  have HO := Lib.hid hO
  obtain ⟨N, hN⟩ : ∃ q, q = n % 24 := ⟨_, rfl⟩
  obtain ⟨M, hM⟩ : ∃ q, q = mem % 30 := ⟨_, rfl⟩
  obtain ⟨fs, hfs⟩ : ∃ q, q = 3 + M := ⟨_, rfl⟩
  have a1 : (n : Int).tmod 24 = (N : Int) := by rw [hN, show (24 : Int) = ((24 : Nat) : Int) from rfl, ← Int.ofNat_tmod]
  have a2 : (mem : Int).tmod 30 = (M : Int) := by rw [hM, show (30 : Int) = ((30 : Nat) : Int) from rfl, ← Int.ofNat_tmod]
  have a3 : (3 : Int) + (M : Int) = (fs : Int) := by omega
  have a4 : (N : Int) < 24 := by omega
  have a5 : (M : Int) < 30 := by omega
  have a6 : (fs : Int) < 34 := by omega
  have HB : Hid (N ≤ 23 ∧ 3 ≤ fs ∧ fs ≤ 33) := Lib.hid (by omega)
  clear hO hN hM hfs
  go_enter Try.func4, Try.ntmps4
  go_wp2_with fail
  refine (first13 _).mono ?_
  rintro e w0 ⟨rfl, hb0⟩
  have HB0 := Lib.hid hb0
  clear hb0
  go_wp2_with fail
  refine (new_yes fs w0 (by have := HB.out; omega) (by have := HB.out; omega)).mono ?_
  rintro e w1 ⟨g, rfl, hm1, hb1⟩
  have HM := Lib.hid hm1
  have HB1 := Lib.hid hb1
  clear hm1 hb1
  go_wp2_with fail
  refine (frames_new_yes 2 (N : Int) w1 (by decide) (by decide) (by omega) (by have := HB.out; omega)).mono ?_
  rintro e w2 ⟨rfl, hs, hb2⟩
  have HMD : Hid (Made W w0 w1 w2 g fs N 2) := Lib.hid ⟨HB0.out, HM.out, HB1.out, hs, hb2, by have := HB.out; omega, by have := HB.out; omega⟩
  clear hs hb2 HM HB1
  have HSML : Hid (Small ((cN w1 w2 g fs N 2).at_ (2 + 0)) ⟨[], [], 0⟩) := Lib.hid (by
    have := HB.out
    exact ⟨by show 2 ≤ 1048576; decide, by show N ≤ 1048576; omega, by show fs ≤ 1048576; omega, by show 0 ≤ 1048576; decide⟩)
  by_cases hN0 : N = 0
  · have HNE : Hid (newE (cN w1 w2 g fs N 2) emptyS 0 = 50) := Lib.hid (by unfold newE takeE; exact if_pos (by show 0 = N; omega))
    have HRE : Hid (rnewE ((cN w1 w2 g fs N 2).at_ (2 + 0)) = 50) := Lib.hid (by unfold rnewE rtakeE; exact if_pos (by show 0 = N; omega))
    have HRN : Hid (∀ w' : World, Calls Try.prog 14 #[.int .i64 2, .int .i64 (N : Int), .int .i64 (fs : Int)] w' fun e w'' => e = .returned (.tuple #[.pointer none, .int .i64 50]) ∧ Below w'.heap.size w' w'') := Lib.hid (fun w' => by
      have := rnew_no ((cN w1 w2 g fs N 2).at_ (2 + 0)) w' HSML.out (by rw [HRE.out]; decide)
      rw [HRE.out] at this
      exact this)
    clear hN0
    go_wp2_with fail
    refine (HMD.out.no (by rw [HNE.out]; decide)).mono ?_
    rintro e w3 ⟨rfl, hb3⟩
    rw [HNE.out]
    have HB3 := Lib.hid hb3
    clear hb3 HMD
    go_wp2_with fail
    refine (HRN.out _).mono ?_
    rintro e w4 ⟨rfl, hb4⟩
    have HB4 := Lib.hid (HB3.out.trans (hb4.mono HB3.out.size))
    clear hb4 HB3 HRN HRE HNE HSML
    go_wp2_with fail
    refine (Unmap_nil _ 0).mono ?_
    rintro e w5 ⟨rfl, hb5⟩
    have HB5 : Hid (Below W.heap.size W (w5.alloc (.cells pte0.cs 25))) := Lib.hid ((HB4.out.trans (hb5.mono HB4.out.size)).alloc (Nat.le_trans HB4.out.size hb5.size) _)
    clear hb5 HB4
    go_wp2_with (first | ((with_reducible refine wl_store_new 25 (.tmp 16) (.tmp 78) rfl ?_ w5 (World.heap w5).size 25 pte0.cs pte0.cs ?_ ?_ ?_ ?_ ?_ ?_ ?_ ?_); exact rfl; exact rfl; exact rfl; exact rfl; exact rfl; exact rfl; exact prow pte0; exact pcs_one pte0))
    generalize w5.alloc (.cells pte0.cs 25) = w6 at *
    refine (Find_nil _ 0).mono ?_
    rintro e w7 ⟨rfl, hb7⟩
    have HB7 : Hid (Below W.heap.size W (w7.alloc (.cells lf0.cs 44))) := Lib.hid ((HB5.out.trans (hb7.mono HB5.out.size)).alloc (Nat.le_trans HB5.out.size hb7.size) _)
    clear hb7 HB5
    go_wp2_with (first | ((with_reducible refine wl_store_new 44 (.tmp 18) (.tmp 83) rfl ?_ w7 (World.heap w7).size 44 lf0.cs lf0.cs ?_ ?_ ?_ ?_ ?_ ?_ ?_ ?_); exact rfl; exact rfl; exact rfl; exact rfl; exact rfl; exact rfl; exact lrow lf0; exact lcs_one lf0))
    generalize w7.alloc (.cells lf0.cs 44) = w8 at *
    refine (tnew_nil _ _).mono ?_
    rintro e w' ⟨rfl, rfl⟩
    go_wp2_with fail
    refine (Map_nil _ 0 0 pte0).mono ?_
    rintro e w9 ⟨rfl, hb9⟩
    have HB9 := Lib.hid (HB7.out.trans (hb9.mono HB7.out.size))
    clear hb9 HB7
    go_wp2_with fail
    refine (Change_nil _ 0 pte0).mono ?_
    rintro e w10 ⟨rfl, hb10⟩
    have HB10 := Lib.hid (HB9.out.trans (hb10.mono HB9.out.size))
    clear hb10 HB9
    go_wp2_with fail
    refine (Root_nil _).mono ?_
    rintro e w' ⟨rfl, rfl⟩
    go_wp2_with fail
    refine (Used_nil _).mono ?_
    rintro e w' ⟨rfl, rfl⟩
    go_wp2_with fail
    refine (Pages_nil _).mono ?_
    rintro e w' ⟨rfl, rfl⟩
    go_wp2_with fail
    go_ret
    exact ⟨rfl, HB10.out⟩
  · have HNE : Hid (newE (cN w1 w2 g fs N 2) emptyS 0 = 0) := Lib.hid (by
      have := HB.out
      unfold newE takeE
      rw [if_neg (by show ¬ 0 = N; omega), if_neg (by show ¬ fs ≤ 2 + 0; omega)])
    have HRE : Hid (rnewE ((cN w1 w2 g fs N 2).at_ (2 + 0)) = 0) := Lib.hid (by
      have := HB.out
      unfold rnewE rtakeE
      rw [if_neg (by show ¬ 0 = N; omega), if_neg (by show ¬ fs ≤ 2 + 0; omega)])
    obtain ⟨c, hc⟩ : ∃ c : TC, c = (cN w1 w2 g fs N 2).at_ (2 + 0) := ⟨_, rfl⟩
    have HRN : Hid (∀ w' : World, Calls Try.prog 14 #[.int .i64 2, .int .i64 (N : Int), .int .i64 (fs : Int)] w' fun e w'' => e = .returned (.tuple #[.pointer (some ⟨w'.heap.size, 0, none⟩), .int .i64 0]) ∧ Below w'.heap.size w' w'' ∧ ∃ F, XAt w'' w'.heap.size c ⟨[], [], 1⟩ F ∧ ∀ b, F b → w'.heap.size ≤ b) := Lib.hid (fun w' => by
      have := rnew_yes ((cN w1 w2 g fs N 2).at_ (2 + 0)) w' HSML.out HRE.out
      rw [← hc] at this
      have e1 : (c.first : Int) = 2 := by rw [hc]; rfl
      have e2 : c.N = N := by rw [hc]; rfl
      have e3 : c.n = fs := by rw [hc]; rfl
      rw [e1, e2, e3] at this
      exact this)
    have HCC : Hid (c.first ≤ 1048576 ∧ c.N ≤ 24 ∧ 1 ≤ c.N ∧ c.n ≤ 1048576) := Lib.hid (by
      have := HB.out
      rw [hc]
      exact ⟨by show 2 ≤ 1048576; decide, by show N ≤ 24; omega, by show 1 ≤ N; omega, by show fs ≤ 1048576; omega⟩)
    clear hN0
    have HTB : Hid (c.tb = w2.heap.size ∧ c.sb = w1.heap.size + 1) := Lib.hid (by rw [hc]; exact ⟨rfl, rfl⟩)
    go_wp2_with fail
    refine (HMD.out.yes HNE.out).mono ?_
    rintro e w3 ⟨rfl, ht3⟩
    rw [← HTB.out.1, ← HTB.out.2]
    rw [← hc] at ht3
    have T3 := Lib.hid ht3
    clear ht3 HMD hc HNE HRE HSML HTB
    go_wp2_with fail
    refine (HRN.out _).mono ?_
    rintro e w4 ⟨rfl, hb4, F, hx, hF⟩
    have T4 := Lib.hid (T3.out.addRef hb4 hx hF)
    clear hb4 hx hF T3 HRN
    generalize w3.heap.size = rb at *
    go_wp2_with fail
    clear a1 a2 a3 a4 a5 a6
    go_loopw [130] (fun i wr => ∃ (k : Nat) (x : XS), k ≤ len ∧ k ≤ 40 ∧ i = .int .i64 k ∧ TP W c x (.some rb x) [] wr ∧ PlOK c x k) (fun i _ => len - (intOf i).toNat)
    case atStart => exact ⟨0, ⟨[], [], 1⟩, by omega, by omega, rfl, T4.out, by exact HCC.out.2.2.1, by exact Nat.le_refl _, by exact Nat.le_refl _⟩
    clear T4
    case round =>
      obtain ⟨k, x, hk, hk40, rfl, ht, hok⟩ := hrel
      have HT := Lib.hid ht
      have HOK := Lib.hid hok
      clear ht hok
      by_cases hkl : k < len
      · obtain ⟨b, o, rfl, hbl, hcc⟩ := HO.out (by omega)
        obtain ⟨ki, le, va, p, hrg, hv2, hw2, hki⟩ := hcc k hkl
        have HRG : Hid (World.rangeAt wr b (o + k * 13) (opC ki le (va : Int) p).toList) := Lib.hid (range_below hrg HT.out.bel)
        have HV := Lib.hid hv2
        have HWF := Lib.hid hw2
        have S5 : Hid (TP W c x (.some rb x) [(wr.heap.size, 27, opC ki le (va : Int) p)] (wr.alloc (.cells (opC ki le (va : Int) p) 27))) := Lib.hid (HT.out.push _ _ rfl)
        clear hrg hv2 hw2 hcc hbl
        by_cases h40 : 40 ≤ k
        · have i40 : (40 : Int) ≤ (k : Int) := by omega
          have HT5 := Lib.hid (S5.out.only (loc' := []) (fun p hp => by simp at hp))
          clear HT S5
          go_wp2_with (first | ((with_reducible refine wl_load 27 (.tmp 133) rfl ?_ b (o + k * 13) (opC ki le (va : Int) p) ?_ HRG.out ?_ ?_); exact rfl; exact rfl; exact op_row _ _ _ _) | ((with_reducible refine wl_store_new 27 (.tmp 23) (.tmp 134) rfl ?_ wr (World.heap wr).size 27 opZ (opC ki le (va : Int) p) ?_ ?_ ?_ ?_ ?_ ?_ ?_ ?_); exact rfl; exact rfl; exact rfl; exact rfl; exact rfl; exact rfl; exact op_row _ _ _ _; exact op_one _ _ _ _))
          refine (tp_pages HT5.out).mono ?_
          rintro e w6 ⟨v, ex, rfl, ht6, hrow, hsl, hwf⟩
          obtain ⟨Aw, cw, rfl, hrd⟩ := hrow
          have HSW := Lib.hid hwf
          have HRD := Lib.hid hrd
          have T6 := Lib.hid ht6
          have HSL := Lib.hid hsl
          clear ht6 hrd hwf hsl HT5
          go_wp2_with fail
          refine (tp_rpages T6.out (HOK.out.roomy (by omega))).mono ?_
          rintro e w7 ⟨v2, ex2, rfl, ht7, hrow2⟩
          obtain ⟨A2, c2, rfl, hrd2⟩ := hrow2
          have HRD2 := Lib.hid hrd2
          have T7 := Lib.hid ht7
          clear ht7 hrd2 T6
          go_wp2_with fail
          refine (rsame_any Aw A2 _ cw c2 (sortM x.L) w7 rfl (by rw [HSL.out]; have := HOK.out.2.1; omega) (HRD.out w7 (fun p hp => T7.out.all p (by simp [hp]))) (HRD2.out w7 (fun p hp => T7.out.all p (by simp [hp]))) HSW.out).mono ?_
          rintro e w8 ⟨rfl, hb8⟩
          have HB8 : Hid (Below W.heap.size W w8) := Lib.hid (T7.out.bel.trans (hb8.mono T7.out.bel.size))
          clear hb8
          go_wp2_with fail
          go_ret
          exact ⟨rfl, HB8.out⟩
        · have i40 : ¬ (40 : Int) ≤ (k : Int) := by omega
          obtain ⟨u, hu⟩ : ∃ u : Nat, IntKind.u64.wrap ki = (u : Int) := ⟨(IntKind.u64.wrap ki).toNat, by have := IntKind.wrap_u64 ki; omega⟩
          have q0 := ((S5.out.at_ 0 _ rfl).cell 0).trans (op_0 ki le (va : Int) p)
          have ql := (S5.out.at_ 0 _ rfl).lt
          simp only at q0 ql
          clear HT
          go_upto_block 2 with (first | ((with_reducible refine wl_load 27 (.tmp 133) rfl ?_ b (o + k * 13) (opC ki le (va : Int) p) ?_ HRG.out ?_ ?_); exact rfl; exact rfl; exact op_row _ _ _ _) | ((with_reducible refine wl_store_new 27 (.tmp 23) (.tmp 134) rfl ?_ wr (World.heap wr).size 27 opZ (opC ki le (va : Int) p) ?_ ?_ ?_ ?_ ?_ ?_ ?_ ?_); exact rfl; exact rfl; exact rfl; exact rfl; exact rfl; exact rfl; exact op_row _ _ _ _; exact op_one _ _ _ _))
          clear q0 ql HRG
          generalize wr.alloc (.cells (opC ki le (va : Int) p) 27) = w5 at *
          generalize wr.heap.size = ob at *
          go_cut [130] from 130 to 263 (fun i w => i = .int .i64 (k : Int) ∧ ∃ x2, TP W c x2 (.some rb x2) [(ob, 27, opC ki le (va : Int) p)] w ∧ PlOK c x2 (k + 1))
          case first =>
            rcases (show u % 4 = 0 ∨ u % 4 = 1 ∨ u % 4 = 2 ∨ u % 4 = 3 by omega) with hm4 | hm4 | hm4 | hm4
            · as_aux_lemma =>
                have j0 : ((u : Int) % 4 == 0) = true := by rw [show (u : Int) % 4 = 0 by omega]; rfl
                clear hm4
                go_wp2_with fail
                have hob2 := (S5.out.drew.at_ 0 _ rfl)
                simp only at hob2
                have s1 := fun (W' : World) (h : W'.heap[ob]? = w5.drew.heap[ob]?) => (World.cell?_of_block (a := ⟨ob, 1, none⟩) h).trans ((hob2.cell 1).trans (op_1 ki le (va : Int) p))
                have s2 := fun (W' : World) (h : W'.heap[ob]? = w5.drew.heap[ob]?) => (World.cell?_of_block (a := ⟨ob, 2, none⟩) h).trans ((hob2.cell 2).trans (op_2 ki le (va : Int) p))
                have HOB2 := Lib.hid hob2
                clear hob2
                refine wp_region_plan_by (fun u u' => u'.heap[ob]? = u.heap[ob]?) ⟨fun _ => rfl, fun h k => k.trans h⟩ [(0, false), (1, false), (2, false), (3, false), (4, false), (5, false), (6, false), (8, false), (9, false), (10, false), (11, false), (12, false), (13, false), (14, false), (7, true), (15, true), (16, false)] (by kernel_rfl) (by kernel_rfl) (fun _ d _ _ _ h => by cases d <;> exact h) ?_
                iterate 6 (refine plan_take (v := ?_) rfl (by kernel_rfl) ?_ ?_; rotate_left; (focus (intro w' hw'; try go_simp; try with_reducible rfl)); simp only [Act.put, List.setIfInBounds_toArray, List.set_cons_zero, List.set_cons_succ])
                refine plan_take rfl (by kernel_rfl) (fun w' h' => run_load_op 25 (.tmp 148) rfl ob 3 p.cs rfl (op_pte (h'.trans HOB2.out)) (prow p)) ?_
                simp only [Act.put, List.setIfInBounds_toArray, List.set_cons_zero, List.set_cons_succ]
                iterate 6 (refine plan_take (v := ?_) rfl (by kernel_rfl) ?_ ?_; rotate_left; (focus (intro w' hw'; try go_simp; try with_reducible rfl)); simp only [Act.put, List.setIfInBounds_toArray, List.set_cons_zero, List.set_cons_succ])
                refine plan_take rfl (by kernel_rfl) (fun w' h' => run_load_op 25 (.tmp 156) rfl ob 3 p.cs rfl (op_pte (h'.trans HOB2.out)) (prow p)) ?_
                simp only [Act.put, List.setIfInBounds_toArray, List.set_cons_zero, List.set_cons_succ]
                clear s1 s2
                refine plan_call rfl (by kernel_rfl) (by go_simp; exact ⟨rfl, rfl⟩) ?_
                refine (tp_map S5.out.drew va le p HV.out HWF.out).mono ?_
                rintro e w6 ⟨rfl, ht6, _⟩
                refine ⟨_, rfl, S5.out.drew.same ht6 0 _ rfl, ?_⟩
                simp only [Act.put, List.setIfInBounds_toArray, List.set_cons_zero, List.set_cons_succ]
                have S6 := Lib.hid ht6
                clear ht6
                refine plan_call rfl (by kernel_rfl) (by go_simp; exact ⟨rfl, rfl⟩) ?_
                refine (tp_rmap S6.out va le p HV.out HWF.out ⟨HCC.out.1, Nat.le_trans HCC.out.2.1 (by decide), HCC.out.2.2.2, Nat.le_trans HOK.out.1 (Nat.le_trans HCC.out.2.1 (by decide))⟩ HOK.out.1 (HOK.out.roomy (by omega))).mono ?_
                rintro e w7 ⟨rfl, ht7, _⟩
                refine ⟨_, rfl, S6.out.same ht7 0 _ rfl, ?_⟩
                simp only [Act.put, List.setIfInBounds_toArray, List.set_cons_zero, List.set_cons_succ]
                have S7 := Lib.hid ht7
                clear ht7 S5 S6
                generalize (mapL c x va le p).1 = E at *
                iterate 1 (refine plan_take (v := ?_) rfl (by kernel_rfl) ?_ ?_; rotate_left; (focus (intro w' hw'; try go_simp; try with_reducible rfl)); simp only [Act.put, List.setIfInBounds_toArray, List.set_cons_zero, List.set_cons_succ])
                refine plan_end ?_
                have HFIN : Hid (∃ x2, TP W c x2 (.some rb x2) [(ob, 27, opC ki le (va : Int) p)] w7 ∧ PlOK c x2 (k + 1)) := Lib.hid ⟨_, S7.out, HOK.out.map va le p⟩
                clear HOK S7
                go_wp2_with fail
                go_meet
                case rel => exact ⟨rfl, HFIN.out⟩
            · as_aux_lemma =>
                have j0 : ((u : Int) % 4 == 0) = false := by rw [show (u : Int) % 4 = 1 by omega]; rfl
                have j1 : ((u : Int) % 4 == 1) = true := by rw [show (u : Int) % 4 = 1 by omega]; rfl
                clear hm4
                go_wp2_with fail
                have hob2 := (S5.out.drew.at_ 0 _ rfl)
                simp only at hob2
                have s1_ := fun (W' : World) (h : W'.heap[ob]? = w5.drew.heap[ob]?) => (World.cell?_of_block (a := ⟨ob, 1, none⟩) h).trans ((hob2.cell 1).trans (op_1 ki le (va : Int) p))
                have s2 := fun (W' : World) (h : W'.heap[ob]? = w5.drew.heap[ob]?) => (World.cell?_of_block (a := ⟨ob, 2, none⟩) h).trans ((hob2.cell 2).trans (op_2 ki le (va : Int) p))
                have HOB2 := Lib.hid hob2
                clear hob2
                refine wp_region_plan_by (fun u u' => u'.heap[ob]? = u.heap[ob]?) ⟨fun _ => rfl, fun h k => k.trans h⟩ [(0, false), (1, false), (2, false), (3, false), (4, false), (6, false), (7, false), (8, false), (9, false), (10, false), (5, true), (11, true), (12, false)] (by kernel_rfl) (by kernel_rfl) (fun _ d _ _ _ h => by cases d <;> exact h) ?_
                iterate 4 (refine plan_take (v := ?_) rfl (by kernel_rfl) ?_ ?_; rotate_left; (focus (intro w' hw'; try go_simp; try with_reducible rfl)); simp only [Act.put, List.setIfInBounds_toArray, List.set_cons_zero, List.set_cons_succ])
                refine plan_take rfl (by kernel_rfl) (fun w' h' => run_load_op 25 (.tmp 165) rfl ob 3 p.cs rfl (op_pte (h'.trans HOB2.out)) (prow p)) ?_
                simp only [Act.put, List.setIfInBounds_toArray, List.set_cons_zero, List.set_cons_succ]
                iterate 4 (refine plan_take (v := ?_) rfl (by kernel_rfl) ?_ ?_; rotate_left; (focus (intro w' hw'; try go_simp; try with_reducible rfl)); simp only [Act.put, List.setIfInBounds_toArray, List.set_cons_zero, List.set_cons_succ])
                refine plan_take rfl (by kernel_rfl) (fun w' h' => run_load_op 25 (.tmp 171) rfl ob 3 p.cs rfl (op_pte (h'.trans HOB2.out)) (prow p)) ?_
                simp only [Act.put, List.setIfInBounds_toArray, List.set_cons_zero, List.set_cons_succ]
                clear s1_ s2
                refine plan_call rfl (by kernel_rfl) (by go_simp; exact ⟨rfl, rfl⟩) ?_
                refine (tp_change S5.out.drew va p HV.out HWF.out).mono ?_
                rintro e w6 ⟨rfl, ht6, _⟩
                refine ⟨_, rfl, S5.out.drew.same ht6 0 _ rfl, ?_⟩
                simp only [Act.put, List.setIfInBounds_toArray, List.set_cons_zero, List.set_cons_succ]
                have S6 := Lib.hid ht6
                clear ht6
                refine plan_call rfl (by kernel_rfl) (by go_simp; exact ⟨rfl, rfl⟩) ?_
                refine (tp_rchange S6.out va p HV.out HWF.out (HOK.out.roomy (by omega))).mono ?_
                rintro e w7 ⟨rfl, ht7, _⟩
                refine ⟨_, rfl, S6.out.same ht7 0 _ rfl, ?_⟩
                simp only [Act.put, List.setIfInBounds_toArray, List.set_cons_zero, List.set_cons_succ]
                have S7 := Lib.hid ht7
                clear ht7 S5 S6
                generalize (changeL x va p).1 = E at *
                iterate 1 (refine plan_take (v := ?_) rfl (by kernel_rfl) ?_ ?_; rotate_left; (focus (intro w' hw'; try go_simp; try with_reducible rfl)); simp only [Act.put, List.setIfInBounds_toArray, List.set_cons_zero, List.set_cons_succ])
                refine plan_end ?_
                have HFIN : Hid (∃ x2, TP W c x2 (.some rb x2) [(ob, 27, opC ki le (va : Int) p)] w7 ∧ PlOK c x2 (k + 1)) := Lib.hid ⟨_, S7.out, HOK.out.change va p⟩
                clear HOK S7
                go_wp2_with fail
                go_meet
                case rel => exact ⟨rfl, HFIN.out⟩
            · as_aux_lemma =>
                have j0 : ((u : Int) % 4 == 0) = false := by rw [show (u : Int) % 4 = 2 by omega]; rfl
                have j1 : ((u : Int) % 4 == 1) = false := by rw [show (u : Int) % 4 = 2 by omega]; rfl
                have j2 : ((u : Int) % 4 == 2) = true := by rw [show (u : Int) % 4 = 2 by omega]; rfl
                clear hm4
                have q2 := ((S5.out.at_ 0 _ rfl).cell 2).trans (op_2 ki le (va : Int) p)
                have ql := (S5.out.at_ 0 _ rfl).lt
                simp only at q2 ql
                go_wp2_with fail
                clear q2 ql
                refine (tp_unmap S5.out va HV.out).mono ?_
                rintro e w6 ⟨rfl, ht6, _⟩
                have HPW : Hid (PteWf (unmapL x va).1) := Lib.hid (by obtain ⟨σ, hl⟩ := S5.out.like; exact unmap_wf hl va)
                have HOKN : Hid (PlOK c (unmapL x va).2.2 (k + 1)) := Lib.hid (HOK.out.unmap va)
                have HRU := fun (w9 : World) (h9 : TP W c (unmapL x va).2.2 (.some rb x) [(w6.heap.size, 25, (unmapL x va).1.cs), (ob, 27, opC ki le (va : Int) p)] w9) => tp_runmap h9 va HV.out (HOK.out.roomy (by omega))
                have S6 : Hid (TP W c (unmapL x va).2.2 (.some rb x) [(w6.heap.size, 25, (unmapL x va).1.cs), (ob, 27, opC ki le (va : Int) p)] (w6.alloc (.cells (unmapL x va).1.cs 25))) := Lib.hid (ht6.push _ _ rfl)
                have HRUH := Lib.hid HRU
                clear ht6 S5 HRU HOK
                generalize (unmapL x va).1 = up at *
                generalize (unmapL x va).2.1 = ue at *
                generalize (unmapL x va).2.2 = x2 at *
                have q2 := ((S6.out.at_ 1 _ rfl).cell 2).trans (op_2 ki le (va : Int) p)
                have ql := (S6.out.at_ 1 _ rfl).lt
                simp only at q2 ql
                go_wp2_with (first | ((with_reducible refine wl_store_new 25 (.tmp 24) (.tmp 182) rfl ?_ w6 (World.heap w6).size 25 pte0.cs up.cs ?_ ?_ ?_ ?_ ?_ ?_ ?_ ?_); exact rfl; exact rfl; exact rfl; exact rfl; exact rfl; exact rfl; exact prow up; exact pcs_one up))
                clear q2 ql
                generalize w6.alloc (.cells up.cs 25) = w7 at *
                generalize w6.heap.size = ub at *
                refine (HRUH.out _ S6.out).mono ?_
                rintro e w8 ⟨rfl, ht8, _⟩
                have S8 : Hid (TP W c x2 (.some rb x2) [(w8.heap.size, 25, up.cs), (ub, 25, up.cs), (ob, 27, opC ki le (va : Int) p)] (w8.alloc (.cells up.cs 25))) := Lib.hid (ht8.push _ _ rfl)
                clear ht8 S6 HRUH
                have heq := fun W => pte_same W up HPW.out
                have HFIN : Hid (∃ x2, TP W c x2 (.some rb x2) [(ob, 27, opC ki le (va : Int) p)] (w8.alloc (.cells up.cs 25)) ∧ PlOK c x2 (k + 1)) := Lib.hid ⟨x2, S8.out.only (fun p hp => by simp at hp; simp [hp]), HOKN.out⟩
                go_wp2_with (first | ((with_reducible refine wl_store_new 25 (.tmp 26) (.tmp 189) rfl ?_ w8 (World.heap w8).size 25 pte0.cs up.cs ?_ ?_ ?_ ?_ ?_ ?_ ?_ ?_); exact rfl; exact rfl; exact rfl; exact rfl; exact rfl; exact rfl; exact prow up; exact pcs_one up) | ((with_reducible refine wl_load 25 (.tmp 24) rfl ?_ ub 0 up.cs ?_ (S8.out.at_ 1 _ rfl).range ?_ ?_); exact rfl; exact rfl; exact prow up) | ((with_reducible refine wl_load 25 (.tmp 26) rfl ?_ w8.heap.size 0 up.cs ?_ (S8.out.at_ 0 _ rfl).range ?_ ?_); exact rfl; exact rfl; exact prow up))
                clear heq
                go_meet
                case rel => exact ⟨rfl, HFIN.out⟩
            · as_aux_lemma =>
                have j0 : ((u : Int) % 4 == 0) = false := by rw [show (u : Int) % 4 = 3 by omega]; rfl
                have j1 : ((u : Int) % 4 == 1) = false := by rw [show (u : Int) % 4 = 3 by omega]; rfl
                have j2 : ((u : Int) % 4 == 2) = false := by rw [show (u : Int) % 4 = 3 by omega]; rfl
                clear hm4
                have HFIN : Hid (∃ x2, TP W c x2 (.some rb x2) [(ob, 27, opC ki le (va : Int) p)] w5 ∧ PlOK c x2 (k + 1)) := Lib.hid ⟨_, S5.out, HOK.out.more⟩
                clear HOK S5
                go_wp2_with fail
                go_meet
                case rel => exact ⟨rfl, HFIN.out⟩
          case rest =>
            as_aux_lemma =>
              obtain ⟨rfl, x2, ht, hok⟩ := hcut
              have T6 := Lib.hid ht
              have HOK2 := Lib.hid hok
              clear ht hok S5 HOK
              have q2 := ((T6.out.at_ 0 _ rfl).cell 2).trans (op_2 ki le (va : Int) p)
              have ql := (T6.out.at_ 0 _ rfl).lt
              simp only at q2 ql
              go_wp2_with fail
              clear q2 ql
              refine (tp_find T6.out va HV.out).mono ?_
              rintro e w7 ⟨hb7, lf, rfl, hlf⟩
              have HLF := Lib.hid hlf
              have T7 : Hid (TP W c x2 (.some rb x2) [(w7.heap.size, 44, lf.cs), (ob, 27, opC ki le (va : Int) p)] (w7.alloc (.cells lf.cs 44))) := Lib.hid ((T6.out.step hb7).push _ _ rfl)
              clear hb7 hlf T6
              have q2 := ((T7.out.at_ 1 _ rfl).cell 2).trans (op_2 ki le (va : Int) p)
              have ql := (T7.out.at_ 1 _ rfl).lt
              simp only at q2 ql
              go_wp2_with (first | ((with_reducible refine wl_store_new 44 (.tmp 28) (.tmp 204) rfl ?_ w7 (World.heap w7).size 44 lf0.cs lf.cs ?_ ?_ ?_ ?_ ?_ ?_ ?_ ?_); exact rfl; exact rfl; exact rfl; exact rfl; exact rfl; exact rfl; exact lrow lf; exact lcs_one lf))
              clear q2 ql
              generalize w7.alloc (.cells lf.cs 44) = w8 at *
              generalize w7.heap.size = lb at *
              refine (tp_rholds T7.out va HV.out).mono ?_
              rintro e w9 ⟨rfl, hb9⟩
              have T9 := Lib.hid (T7.out.step hb9)
              have HTD := Lib.hid T9.out.drew
              have HTN : Hid (TP W c x2 (.some rb x2) [] w9.drew) := Lib.hid (T9.out.drew.only (fun p hp => by simp at hp))
              clear hb9 T7
              obtain ⟨F, hx⟩ := T9.out.ref
              have HX := Lib.hid hx
              obtain ⟨_, _, _, _, hxb, _⟩ := hx.forms
              have c5 := hxb.cell 5
              have rlt := hxb.lt
              simp only [List.getElem?_toArray, List.getElem?_cons_zero, List.getElem?_cons_succ] at c5
              have s5 := fun (W' : World) (h : Ext w9.drew W') => (h.cell (p := ⟨rb, 5, none⟩) rlt).trans c5
              clear hx hxb
              cases hh : holdsI x2.L va with
              | none =>
                have HF : Hid (foundE x2.L va = 51 ∧ idxV (none : Option Nat) = -1) := Lib.hid ⟨by unfold foundE; rw [hh]; rfl, rfl⟩
                rw [HF.out.1, HF.out.2]
                clear hh
                go_wp2_with fail
                refine wp_region_plan [(0, false), (1, false), (2, false), (3, false), (4, false), (5, false), (6, false), (7, false), (8, false), (9, false), (10, false), (11, false), (12, false), (13, false), (14, false), (15, false), (16, false), (17, false), (18, false), (19, false), (20, false), (21, false), (22, false), (23, false), (24, false), (25, false), (26, false), (27, false), (28, false), (29, false), (30, false), (31, false), (32, false), (33, false), (34, false), (35, false), (36, false), (37, false), (38, false), (39, false), (40, false), (41, false), (42, false), (43, false), (44, false), (45, false), (46, false), (47, false), (48, false), (49, false), (50, false), (51, false), (52, false)] (by kernel_rfl) (by kernel_rfl) (fun _ d _ _ _ h => by cases d <;> exact h) ?_
                iterate 9 (refine plan_take (v := ?_) rfl (by kernel_rfl) ?_ ?_; rotate_left; (focus (intro w' hw'; try go_simp; try with_reducible rfl)); simp only [Act.put, List.setIfInBounds_toArray, List.set_cons_zero, List.set_cons_succ])
                iterate 24 (refine plan_skip rfl (by kernel_rfl) ?_; simp only [Act.put, List.setIfInBounds_toArray, List.set_cons_zero, List.set_cons_succ])
                iterate 3 (refine plan_take (v := ?_) rfl (by kernel_rfl) ?_ ?_; rotate_left; (focus (intro w' hw'; try go_simp; try with_reducible rfl)); simp only [Act.put, List.setIfInBounds_toArray, List.set_cons_zero, List.set_cons_succ])
                iterate 1 (refine plan_take (v := ?_) rfl (by kernel_rfl) ?_ ?_; rotate_left; (focus (intro w' hw'; try go_simp; try with_reducible rfl)); simp only [Act.put, List.setIfInBounds_toArray, List.set_cons_zero, List.set_cons_succ])
                refine plan_quiet rfl (by kernel_rfl) (fun w' => by go_simp; all_goals (first | exact ⟨rfl, rfl⟩ | rfl)) (fun w' hw' => (tp_used (HTD.out.step hw'))) ?_
                simp only [Act.put, List.setIfInBounds_toArray, List.set_cons_zero, List.set_cons_succ]
                iterate 8 (refine plan_take (v := ?_) rfl (by kernel_rfl) ?_ ?_; rotate_left; (focus (intro w' hw'; try go_simp; try with_reducible rfl)); simp only [Act.put, List.setIfInBounds_toArray, List.set_cons_zero, List.set_cons_succ])
                refine plan_quiet rfl (by kernel_rfl) (fun w' => by go_simp; all_goals (first | exact ⟨rfl, rfl⟩ | rfl)) (fun w' hw' => (tp_sused (HTD.out.step hw'))) ?_
                simp only [Act.put, List.setIfInBounds_toArray, List.set_cons_zero, List.set_cons_succ]
                iterate 6 (refine plan_take (v := ?_) rfl (by kernel_rfl) ?_ ?_; rotate_left; (focus (intro w' hw'; try go_simp; try with_reducible rfl)); simp only [Act.put, List.setIfInBounds_toArray, List.set_cons_zero, List.set_cons_succ])
                refine plan_end ?_
                clear s5 c5 rlt
                go_wp2_with fail
                go_roundw
                case rel => exact ⟨k + 1, x2, hkl, by omega, by go_num, HTN.out, HOK2.out⟩
                case measure => simp [intOf]; omega
              | some j =>
                obtain ⟨m, hm⟩ := holdsI_some hh
                obtain ⟨pos, hl⟩ := HLF.out j m hh hm
                have HF : Hid (foundE x2.L va = 0 ∧ idxV (some j) = (j : Int)) := Lib.hid ⟨by unfold foundE; rw [hh]; rfl, rfl⟩
                rw [HF.out.1, HF.out.2]
                have HLE : Hid (lf = m.p.leaf (m.lev : Int) pos) := Lib.hid hl
                have HGW : Hid (PteWf m.p ∧ m.lev ≤ 2) := Lib.hid (by obtain ⟨σ, hlk⟩ := T9.out.like; exact got_wf hlk hm)
                obtain ⟨g2, cap2, op2⟩ := HX.out.openL hm
                obtain ⟨n2, hn2⟩ : ∃ q, q = x2.L.length := ⟨_, rfl⟩
                have c0 := op2.cell
                rw [← hn2] at c0
                have jn := op2.ix
                rw [← hn2] at jn
                have glt := op2.glt
                have c1 : w9.cell? ⟨g2, j * 12 + 1, none⟩ = some (.int .i64 (m.lev : Int)) := op2.rng 1 _ rfl
                have HGR : Hid (World.rangeAt w9.drew g2 (j * 12 + 2) m.p.cs.toList) := Lib.hid (pcs_range op2.rng)
                have HLR : Hid (World.rangeAt w9.drew lb 0 m.p.cs.toList) := Lib.hid (leaf_range (lev := (m.lev : Int)) (pos := pos) (by rw [← HLE.out]; exact HTD.out.at_ 0 _ rfl))
                have c10 : w9.drew.cell? ⟨lb, 10, none⟩ = some (.int .i64 (m.lev : Int)) := ((HTD.out.at_ 0 _ rfl).cell 10).trans (by rw [HLE.out]; rfl)
                have llt := (HTD.out.at_ 0 _ rfl).lt
                simp only at llt
                have s0 := fun (W' : World) (h : Ext w9.drew W') => (h.cell (p := ⟨rb, 0, none⟩) rlt).trans c0
                have s1 := fun (W' : World) (h : Ext w9.drew W') => (h.cell (p := ⟨g2, j * 12 + 1, none⟩) glt).trans c1
                have s10 := fun (W' : World) (h : Ext w9.drew W') => (h.cell (p := ⟨lb, 10, none⟩) llt).trans c10
                have jI : (j : Int) < (n2 : Int) := by omega
                have j0 : (0 : Int) ≤ (j : Int) := by omega
                have jd : decide ((0 : Int) ≤ (j : Int)) = true := decide_eq_true j0
                have heq := fun W => pte_same W m.p HGW.out.1
                clear hh hm hl hn2 op2
                go_wp2_with fail
                refine wp_region_plan [(0, false), (1, false), (2, false), (3, false), (4, false), (5, false), (6, false), (7, false), (8, false), (9, false), (10, false), (11, false), (12, false), (13, false), (14, false), (15, false), (16, false), (17, false), (18, false), (19, false), (20, false), (21, false), (22, false), (23, false), (24, false), (25, false), (26, false), (27, false), (28, false), (29, false), (30, false), (31, false), (32, false), (33, false), (34, false), (35, false), (36, false), (37, false), (38, false), (39, false), (40, false), (41, false), (42, false), (43, false), (44, false), (45, false), (46, false), (47, false), (48, false), (49, false), (50, false), (51, false), (52, false)] (by kernel_rfl) (by kernel_rfl) (fun _ d _ _ _ h => by cases d <;> exact h) ?_
                iterate 10 (refine plan_take (v := ?_) rfl (by kernel_rfl) ?_ ?_; rotate_left; (focus (intro w' hw'; try go_simp; try with_reducible rfl)); simp only [Act.put, List.setIfInBounds_toArray, List.set_cons_zero, List.set_cons_succ])
                refine plan_take rfl (by kernel_rfl) (fun w' h' => run_load_op 25 (.tmp 219) rfl lb 0 m.p.cs rfl (range_below HLR.out h') (prow m.p)) ?_
                simp only [Act.put, List.setIfInBounds_toArray, List.set_cons_zero, List.set_cons_succ]
                iterate 7 (refine plan_take (v := ?_) rfl (by kernel_rfl) ?_ ?_; rotate_left; (focus (intro w' hw'; try go_simp; try with_reducible rfl)); simp only [Act.put, List.setIfInBounds_toArray, List.set_cons_zero, List.set_cons_succ])
                refine plan_take rfl (by kernel_rfl) (fun w' h' => run_load_op 25 (.tmp 227) rfl g2 (j * 12 + 2) m.p.cs rfl (range_below HGR.out h') (prow m.p)) ?_
                simp only [Act.put, List.setIfInBounds_toArray, List.set_cons_zero, List.set_cons_succ]
                iterate 17 (refine plan_take (v := ?_) rfl (by kernel_rfl) ?_ ?_; rotate_left; (focus (intro w' hw'; try go_simp; try with_reducible rfl)); simp only [Act.put, List.setIfInBounds_toArray, List.set_cons_zero, List.set_cons_succ])
                iterate 1 (refine plan_take (v := ?_) rfl (by kernel_rfl) ?_ ?_; rotate_left; (focus (intro w' hw'; try go_simp; try with_reducible rfl)); simp only [Act.put, List.setIfInBounds_toArray, List.set_cons_zero, List.set_cons_succ])
                refine plan_quiet rfl (by kernel_rfl) (fun w' => by go_simp; all_goals (first | exact ⟨rfl, rfl⟩ | rfl)) (fun w' hw' => (tp_used (HTD.out.step hw'))) ?_
                simp only [Act.put, List.setIfInBounds_toArray, List.set_cons_zero, List.set_cons_succ]
                iterate 8 (refine plan_take (v := ?_) rfl (by kernel_rfl) ?_ ?_; rotate_left; (focus (intro w' hw'; try go_simp; try with_reducible rfl)); simp only [Act.put, List.setIfInBounds_toArray, List.set_cons_zero, List.set_cons_succ])
                refine plan_quiet rfl (by kernel_rfl) (fun w' => by go_simp; all_goals (first | exact ⟨rfl, rfl⟩ | rfl)) (fun w' hw' => (tp_sused (HTD.out.step hw'))) ?_
                simp only [Act.put, List.setIfInBounds_toArray, List.set_cons_zero, List.set_cons_succ]
                iterate 6 (refine plan_take (v := ?_) rfl (by kernel_rfl) ?_ ?_; rotate_left; (focus (intro w' hw'; try go_simp; try with_reducible rfl)); simp only [Act.put, List.setIfInBounds_toArray, List.set_cons_zero, List.set_cons_succ])
                refine plan_end ?_
                clear s5 c5 rlt s0 s1 s10 c0 c1 c10 glt llt heq
                go_wp2_with fail
                go_roundw
                case rel => exact ⟨k + 1, x2, hkl, by omega, by go_num, HTN.out, HOK2.out⟩
                case measure => simp [intOf]; omega
      · obtain rfl : len = k := by omega
        have HT5 := Lib.hid HT.out
        clear HT HO
        go_wp2_with fail
        refine (tp_pages HT5.out).mono ?_
        rintro e w6 ⟨v, ex, rfl, ht6, hrow, hsl, hwf⟩
        obtain ⟨Aw, cw, rfl, hrd⟩ := hrow
        have HSW := Lib.hid hwf
        have HRD := Lib.hid hrd
        have T6 := Lib.hid ht6
        have HSL := Lib.hid hsl
        clear ht6 hrd hwf hsl HT5
        go_wp2_with fail
        refine (tp_rpages T6.out (HOK.out.roomy (by omega))).mono ?_
        rintro e w7 ⟨v2, ex2, rfl, ht7, hrow2⟩
        obtain ⟨A2, c2, rfl, hrd2⟩ := hrow2
        have HRD2 := Lib.hid hrd2
        have T7 := Lib.hid ht7
        clear ht7 hrd2 T6
        go_wp2_with fail
        refine (rsame_any Aw A2 _ cw c2 (sortM x.L) w7 rfl (by rw [HSL.out]; have := HOK.out.2.1; omega) (HRD.out w7 (fun p hp => T7.out.all p (by simp [hp]))) (HRD2.out w7 (fun p hp => T7.out.all p (by simp [hp]))) HSW.out).mono ?_
        rintro e w8 ⟨rfl, hb8⟩
        have HB8 : Hid (Below W.heap.size W w8) := Lib.hid (T7.out.bel.trans (hb8.mono T7.out.bel.size))
        clear hb8
        go_wp2_with fail
        go_ret
        exact ⟨rfl, HB8.out⟩
theorem Law.TablePlays (n mem : Int) (A : Option Addr) (len cap : Nat) (W : World) (hn : (Lit.int .u8 n).wf = true) (hm : (Lit.int .u8 mem).wf = true) (hz : IsRows [.int .i64, .int .i64, .int .u64, .bool, .bool, .bool, .bool, .bool, .bool, .bool, .bool, .int .i64, .int .u64] W A len cap) (_ : 48 * cap ≤ 140737488351232) :
    Calls Try.prog 4 #[.int .u8 n, .int .u8 mem, .slice A len cap] W fun e w' => e = .returned (.bool true) ∧ Below W.heap.size W w' := by
  have hl : len ≤ 9223372036854775807 := by
    rcases hz with ⟨_, h, _⟩ | ⟨x, _, h, h2, _⟩
    · omega
    · exact Nat.le_trans h (Nat.le_trans h2 (by decide))
  obtain ⟨n, rfl⟩ := Int.eq_ofNat_of_zero_le (u8_of_wf hn).1
  obtain ⟨mem, rfl⟩ := Int.eq_ofNat_of_zero_le (u8_of_wf hm).1
  exact plays_walk n mem A len cap W (fun hp => ops_of hz hp) hl (by have := (u8_of_wf hn).2; omega) (by have := (u8_of_wf hm).2; omega)
end Go.Proofs.Ytbgagmpinekhpaa
