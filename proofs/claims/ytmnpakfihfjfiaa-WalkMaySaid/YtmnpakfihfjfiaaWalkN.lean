/- The reference's Find. -/
import Derived.Test.YtmnpakfihfjfiaaWalkL
import Derived.Test.YtmnpakfihfjfiaaPteG
namespace Go.Proofs.Ytmnpakfihfjfiaa
open Go.RowKit

theorem rright_any (v r w x u g a d : Bool) (rsw ppn : Int) (W : World) :
    Calls Try.prog 40 #[.agg #[.bool v, .bool r, .bool w, .bool x, .bool u, .bool g, .bool a, .bool d, .int .i64 rsw, .int .u64 ppn]] W fun e w' => e = .returned (.bool (v && (r || !w))) ∧ Below W.heap.size W w' := by
  cases v <;> cases r <;> cases w
  all_goals
    go_enter Try.func40, Try.ntmps40
    go_wp2_with fail
    go_ret
    exact ⟨rfl, (Below.refl _ _).alloc (Nat.le_refl _) _⟩
/-- The rounds that are left. -/
def rfF (n : Nat) (S : Nat → List Nat) (va : Nat) : Nat → Nat → Fd
  | 0, _ => .err 51
  | j + 1, t => fdAt n S va j t (rfF n S va j (ppnX (ldR n S (atX va t j) 8)))
theorem rfF_eq (n : Nat) (S : Nat → List Nat) (va : Nat) : ∀ l t, rfF n S va (l + 1) t = findF n S va l t
  | 0, t => rfl
  | l + 1, t => by
    show fdAt n S va (l + 1) t (rfF n S va (l + 1) _) = _
    rw [rfF_eq n S va l]
    rfl
def pteC (x : Nat) : Array Value := #[.bool (bitB x 0), .bool (bitB x 1), .bool (bitB x 2), .bool (bitB x 3), .bool (bitB x 4), .bool (bitB x 5), .bool (bitB x 6), .bool (bitB x 7), .int .i64 ((x : Int) / 256 % 4), .int .u64 ((x : Int) / 1024 % 17592186044416)]
theorem entry_c (x : Nat) : entryV x = .agg (pteC x) := rfl
theorem pteC_row (x : Nat) : rowT Try.prog 36 (pteC x).size = true := pte_row
theorem pteC_one (x : Nat) : (pteC x).all (·.oneCell') = true := pte_one x
theorem rget_c (x : Nat) (W : World) (hx : x < 18446744073709551616) :
    Calls Try.prog 39 #[.int .u64 (x : Int)] W fun e w' => e = .returned (.tuple #[.agg (pteC x), .bool (x / 18014398509481984 == 0)]) ∧ Below W.heap.size W w' := pte_rget_any x W hx
theorem rright_c (x : Nat) (W : World) : Calls Try.prog 40 #[.agg (pteC x)] W fun e w' => e = .returned (.bool (bitB x 0 && (bitB x 1 || !bitB x 2))) ∧ Below W.heap.size W w' := rright_any _ _ _ _ _ _ _ _ _ _ _
theorem rfd_good {n : Nat} {S : Nat → List Nat} {va t j x : Nat} (hc : chkE n (atX va t j) 8 = 0) (hx : ldR n S (atX va t j) 8 = x) (hg : goodX x = true) :
    rfF n S va (j + 1) t = if leafX x then (if evenB (ppnX x) j then .leaf x j (atX va t j) else .err 51) else if leadX x j then rfF n S va j (ppnX x) else .err 51 := by
  show fdAt n S va j t (rfF n S va j (ppnX (ldR n S (atX va t j) 8))) = _
  unfold fdAt
  rw [if_pos hc, hx, if_pos hg]
theorem rfd_bad {n : Nat} {S : Nat → List Nat} {va t j x : Nat} (hc : chkE n (atX va t j) 8 = 0) (hx : ldR n S (atX va t j) 8 = x) (hg : goodX x = false) : rfF n S va (j + 1) t = .err 51 := by
  unfold rfF fdAt
  rw [if_pos hc, hx, if_neg (by rw [hg]; decide)]
theorem rfd_chk {n : Nat} {S : Nat → List Nat} {va t j : Nat} (hc : chkE n (atX va t j) 8 ≠ 0) : rfF n S va (j + 1) t = .err 61 := by
  unfold rfF fdAt
  rw [if_neg hc]
theorem chk61 {n a : Nat} (h : chkE n a 8 ≠ 0) : (chkE n a 8 != 0) = true := by simpa using h
theorem rat_wrap (va t : Nat) (l : Nat) : IntKind.u64.wrap ((t : Int) % 4503599627370496 * 4096 + IntKind.u64.wrap (8 * IntKind.u64.wrap ((indexV va (l : Int) : Nat) : Int))) = ((atX va t l : Nat) : Int) := by
  rw [IntKind.wrap_u64, IntKind.wrap_u64, IntKind.wrap_u64]
  unfold atX
  omega
theorem ldE_lt {L : List (Nat × Nat)} (h : ∀ x ∈ L, x.2 < 256) (n a : Nat) : ldE n L a 8 < 18446744073709551616 := by
  unfold ldE
  split
  · exact rdV_lt h a 8 0 (by decide) (by decide)
  · decide
/-- The reference's loop: as many rounds as are left. -/
def RfR (g n va : Nat) (S : Nat → List Nat) (fd : Fd) (W : World) (tv lv : Value) (wr : World) : Prop :=
  ∃ j t : Nat, j ≤ 3 ∧ t < 18446744073709551616 ∧ lv = .int .i64 ((j : Int) - 1) ∧ tv = .int .u64 (t : Int) ∧ fd = rfF n S va j t ∧ Blk wr (W.heap.size + 1) 38 #[.bool false, .bool false, .bool false, .bool false, .bool false, .bool false, .bool false, .bool false, .int .i64 0, .int .u64 0, .int .i64 0, .int .u64 0] ∧ Below W.heap.size W wr
theorem even_span (x j : Nat) (h : j ≤ 2) : ((IntKind.u64.wrap ((ppnX x : Int) * 4096)).tmod (spanV (j : Int) : Int) != 0) = !evenB (ppnX x) j := by
  have hp := ppnX_lt x
  rw [IntKind.wrap_u64, Int.tmod_eq_emod_of_nonneg (by omega), span_sp h]
  unfold evenB spN
  generalize ppnX x = p at *
  rw [Bool.eq_iff_iff]
  rcases (show j = 0 ∨ j = 1 ∨ j = 2 by omega) with rfl | rfl | rfl <;> simp <;> omega
theorem span_pos {j : Nat} (h : j ≤ 2) : 0 < spanV (j : Int) := by
  rcases (show j = 0 ∨ j = 1 ∨ j = 2 by omega) with rfl | rfl | rfl <;> decide
set_option maxRecDepth 100000 in
set_option maxHeartbeats 2000000 in
theorem rfind_on (xb n va ppn : Nat) (asid : Int) (G : Nat → Prop) (L : List (Nat × Nat)) (S : Nat → List Nat) (W : World) (hn : n ≤ 1048576) (hL : L.length ≤ 900000) (hlv : ∀ x ∈ L, x.2 < 256) (h : RefAt W xb G n L) (hr : Rel n L S) (hv : va < 18446744073709551616) (hp : ppn < 18446744073709551616) (hc : canonB va = true) :
    Calls Try.prog 17 #[.pointer (some ⟨xb, 0, none⟩), .agg #[.bool true, .int .i64 asid, .int .u64 (ppn : Int)], .int .u64 (va : Int)] W fun e w' =>
      e = .returned (.tuple #[fdV (findF n S va 2 ppn), .int .i64 (fdE (findF n S va 2 ppn))]) ∧ Below W.heap.size W w' := by
  have HN := Lib.hid hn
  have HL := Lib.hid hL
  have HLV := Lib.hid hlv
  have HR := Lib.hid h
  have HRL := Lib.hid hr
  have HV := Lib.hid hv
  have HP := Lib.hid hp
  have HC := Lib.hid hc
  clear hn hL hlv h hr hv hp hc
  obtain ⟨fd, hfd⟩ : ∃ fd, fd = findF n S va 2 ppn := ⟨_, rfl⟩
  rw [← hfd]
  have HF := Lib.hid (hfd.trans (rfF_eq n S va 2 ppn).symm)
  clear hfd
  have hw : ∃ W2, W2 = (W.alloc (.cells #[.bool true, .int .i64 asid, .int .u64 (ppn : Int)] 31)).alloc (.cells #[.bool false, .bool false, .bool false, .bool false, .bool false, .bool false, .bool false, .bool false, .int .i64 0, .int .u64 0, .int .i64 0, .int .u64 0] 38) ∧ Blk W2 W.heap.size 31 #[.bool true, .int .i64 asid, .int .u64 (ppn : Int)] ∧ Blk W2 (W.heap.size + 1) 38 #[.bool false, .bool false, .bool false, .bool false, .bool false, .bool false, .bool false, .bool false, .int .i64 0, .int .u64 0, .int .i64 0, .int .u64 0] ∧ Below W.heap.size W W2 :=
    ⟨_, rfl, (Blkf.new_at _ _ _ _ rfl).alloc _, Blkf.new_at _ _ _ _ (by simp), ((Below.refl _ _).alloc (Nat.le_refl _) _).alloc (by simp) _⟩
  obtain ⟨W2, hW2, hs, hz, hb⟩ := hw
  have HZ := Lib.hid hz
  have HB := Lib.hid hb
  have s0 := hs.cell 0
  have s2 := hs.cell 2
  simp at s0 s2
  clear hz hb hs
  go_enter Try.func17, Try.ntmps17
  go_wp2_with fail
  rw [← hW2]
  clear hW2
  go_wp2_with fail
  refine (rcanon_any va _ HV.out).mono ?_
  rintro e w' ⟨rfl, rfl⟩
  rw [HC.out]
  go_wp2_with fail
  clear s0 s2
  go_loopw [8, 9] (fun tv lv wr => RfR xb n va S fd W tv lv wr) (fun _ lv _ => (intOf lv + 1).toNat)
  case atStart => exact ⟨3, ppn, by omega, HP.out, rfl, rfl, HF.out, HZ.out, HB.out⟩
  clear HZ HB HF
  case round =>
    obtain ⟨j, t, hj, ht, rfl, rfl, hfd, hz, hb⟩ := hrel
    have HF := Lib.hid hfd
    have HZ := Lib.hid hz
    have HB := Lib.hid hb
    clear hfd hz hb
    rcases Nat.eq_zero_or_pos j with h0 | h0
    · subst h0
      have HFE : Hid (fd = .err 51) := HF
      clear HF
      go_wp2_with (first | ((with_reducible refine wl_store 38 (.tmp 6) (.tmp 91) rfl ?_ (W.heap.size + 1) 38 #[.bool false, .bool false, .bool false, .bool false, .bool false, .bool false, .bool false, .bool false, .int .i64 0, .int .u64 0, .int .i64 0, .int .u64 0] #[.bool false, .bool false, .bool false, .bool false, .bool false, .bool false, .bool false, .bool false, .int .i64 0, .int .u64 0, .int .i64 0, .int .u64 0] ?_ ?_ HZ.out ?_ ?_ ?_ ?_); exact rfl; exact rfl; exact rfl; exact rfl; exact leaf_row; exact lzer_one))
      refine bodyPost_ret (res_cell_slot (cs := #[.bool false, .bool false, .bool false, .bool false, .bool false, .bool false, .bool false, .bool false, .int .i64 0, .int .u64 0, .int .i64 0, .int .u64 0]) (v := .int .i64 51) rfl _ _ (W.heap.size + 1) 38 rfl rfl (HZ.out.setRow _) leaf_row) rfl ⟨?_, below_setRow HB.out (Nat.le_succ _) _⟩
      rw [HFE.out]
      rfl
    · obtain ⟨j, rfl⟩ : ∃ i, j = i + 1 := ⟨j - 1, by omega⟩
      clear h0
      have hjj : (((j + 1 : Nat) : Int) - 1) = (j : Int) := by omega
      rw [hjj]
      have HJ : Hid (j ≤ 2) := Lib.hid (by omega)
      clear hjj hj
      go_wp2_with fail
      refine (rindex_any va j _ HV.out).mono ?_
      rintro e w0 ⟨rfl, hb0⟩
      have HZ0 := Lib.hid (HZ.out.below hb0 HZ.out.lt)
      have HB0 := Lib.hid (HB.out.trans (hb0.mono HB.out.size))
      clear hb0 HZ HB
      go_wp2_with fail
      rw [rat_wrap va t j]
      obtain ⟨at_, hat⟩ : ∃ at_, at_ = atX va t j := ⟨_, rfl⟩
      rw [← hat]
      have HAX := Lib.hid hat
      have HAT : Hid (at_ < 18446744073709551616) := Lib.hid (by rw [hat]; exact atX_lt _ _ _)
      clear hat
      go_wp2_with fail
      refine (rload_any xb n at_ 8 G L _ HN.out HAT.out (by have := HL.out; omega) HLV.out (HR.out.below (HB0.out))).mono ?_
      rintro e w1 ⟨rfl, hb1⟩
      have HZ1 := Lib.hid (HZ0.out.below hb1 HZ0.out.lt)
      have HB1 := Lib.hid (HB0.out.trans (hb1.mono HB0.out.size))
      clear hb1 HZ0 HB0
      rw [HRL.out.load at_ 8]
      obtain ⟨c, hc⟩ : ∃ c, c = chkE n at_ 8 := ⟨_, rfl⟩
      rw [← hc]
      obtain ⟨x, hx⟩ : ∃ x, x = ldR n S at_ 8 := ⟨_, rfl⟩
      rw [← hx]
      have HX : Hid (x < 18446744073709551616) := Lib.hid (by rw [hx, ← HRL.out.load]; exact ldE_lt HLV.out n at_)
      by_cases hc0 : c = 0
      · subst hc0
        have HG := Lib.hid (fun hg => HF.out.trans (rfd_good (n := n) (S := S) (va := va) (t := t) (j := j) (x := x) (by rw [← HAX.out]; exact hc.symm) (by rw [← HAX.out]; exact hx.symm) hg))
        have HBD := Lib.hid (fun hg => HF.out.trans (rfd_bad (n := n) (S := S) (va := va) (t := t) (j := j) (x := x) (by rw [← HAX.out]; exact hc.symm) (by rw [← HAX.out]; exact hx.symm) hg))
        clear hc hx
        go_wp2_with fail
        refine (rget_c x _ HX.out).mono ?_
        rintro e w2 ⟨rfl, hb2⟩
        have HZ2 := Lib.hid (HZ1.out.below hb2 HZ1.out.lt)
        have HB2 := Lib.hid (HB1.out.trans (hb2.mono HB1.out.size))
        clear hb2 HZ1 HB1
        have HP3 := Lib.hid (Blkf.new_at w2 36 (0, 0) (pteC x) rfl)
        have HZ3 := Lib.hid (HZ2.out.alloc (.cells (pteC x) 36))
        have HB3 := Lib.hid (HB2.out.alloc HB2.out.size (.cells (pteC x) 36))
        have HPN : Hid (W.heap.size + 1 < w2.heap.size) := Lib.hid HZ2.out.lt
        have hgx : goodX x = ((x / 18014398509481984 == 0) && (bitB x 0 && (bitB x 1 || !bitB x 2))) := rfl
        rcases Bool.eq_false_or_eq_true (x / 18014398509481984 == 0) with h54 | h54
        · rw [h54] at hgx ⊢
          rw [Bool.true_and] at hgx
          have HGX := Lib.hid hgx
          clear hgx h54
          go_wp2_with (first | ((with_reducible refine wl_store_new 36 (.tmp 13) (.tmp 50) rfl ?_ w2 (World.heap w2).size 36 #[.bool false, .bool false, .bool false, .bool false, .bool false, .bool false, .bool false, .bool false, .int .i64 0, .int .u64 0] (pteC x) ?_ ?_ ?_ ?_ ?_ ?_ ?_ ?_); exact rfl; exact rfl; exact rfl; exact rfl; exact rfl; exact rfl; exact pteC_row x; exact pteC_one x) | ((with_reducible refine wl_load 36 (.tmp 13) rfl ?_ w2.heap.size 0 (pteC x) ?_ HP3.out.range ?_ ?_); exact rfl; exact rfl; exact pteC_row x))
          refine (rright_c x _).mono ?_
          rintro e w4 ⟨rfl, hb4⟩
          rw [← HGX.out]
          have HZ4 := Lib.hid (HZ3.out.below hb4 HZ3.out.lt)
          have HP4 := Lib.hid (HP3.out.below hb4 HP3.out.lt)
          have HB4 := Lib.hid (HB3.out.trans (hb4.mono HB3.out.size))
          clear hb4 HZ3 HP3 HB3 HZ2 HB2
          rcases Bool.eq_false_or_eq_true (goodX x) with hg | hg
          · have HG2 := Lib.hid (HG.out hg)
            rw [hg]
            clear hg HG
            have hr1 := HP4.out.cell 1
            have hr3 := HP4.out.cell 3
            rw [show (pteC x)[1]? = some (.bool (bitB x 1)) from rfl] at hr1
            rw [show (pteC x)[3]? = some (.bool (bitB x 3)) from rfl] at hr3
            rcases Bool.eq_false_or_eq_true (bitB x 1) with h1 | h1
            · rw [h1] at hr1
              have HLF : Hid (leafX x = true) := Lib.hid (by unfold leafX; rw [h1, Bool.true_or])
              have hs9 : ∀ W', Ext w4.drew W' → W'.cell? ⟨w2.heap.size, 9, none⟩ = some (.int .u64 ((ppnX x : Nat) : Int)) := fun W' h => (h.cell HP4.out.drew.lt).trans (HP4.out.cell 9)
              have hsz : ¬ (spanV (j : Int) = 0) := by have := span_pos HJ.out; omega
              clear h1 HBD 
              go_wp2_with fail
              clear hr1 hr3
              refine wp_region_plan [(0, false), (1, false), (2, false), (3, false), (4, true), (5, false), (6, false)] (by kernel_rfl) (by kernel_rfl) (fun _ d _ _ _ h => by cases d <;> exact h) ?_
              iterate 4 (refine plan_take (v := ?_) rfl (by kernel_rfl) ?_ ?_; rotate_left; (focus (intro w' hw'; try go_simp; try with_reducible rfl)); simp only [Act.put, List.setIfInBounds_toArray, List.set_cons_zero, List.set_cons_succ])
              refine plan_call rfl (by kernel_rfl) (by go_simp; exact ⟨rfl, rfl⟩) ?_
              refine (rspan_any j _).mono ?_
              rintro e w' ⟨rfl, rfl⟩
              refine ⟨_, rfl, Ext.refl _, ?_⟩
              simp only [Act.put, List.setIfInBounds_toArray, List.set_cons_zero, List.set_cons_succ]
              iterate 2 (refine plan_take (v := ?_) rfl (by kernel_rfl) ?_ ?_; rotate_left; (focus (intro w' hw'; try go_simp; try with_reducible rfl)); simp only [Act.put, List.setIfInBounds_toArray, List.set_cons_zero, List.set_cons_succ])
              refine plan_end ?_
              rw [even_span x j HJ.out]
              clear hs9 hsz
              have HZ4 := Lib.hid HZ4.out.drew
              have HP4 := Lib.hid HP4.out.drew
              have HB4 := Lib.hid HB4.out.drew
              rcases Bool.eq_false_or_eq_true (evenB (ppnX x) j) with hev | hev
              · rw [hev]
                have HE : Hid (fd = .leaf x j at_) := Lib.hid (by rw [HG2.out, if_pos HLF.out, if_pos hev, ← HAX.out])
                clear hev
                have HPX : Hid (Blk w4.drew w2.heap.size 36 #[.bool (bitB x 0), .bool (bitB x 1), .bool (bitB x 2), .bool (bitB x 3), .bool (bitB x 4), .bool (bitB x 5), .bool (bitB x 6), .bool (bitB x 7), .int .i64 ((x : Int) / 256 % 4), .int .u64 ((x : Int) / 1024 % 17592186044416)]) := Lib.hid HP4.out
                go_wp2_with (first | ((with_reducible refine wl_load 36 (.tmp 13) rfl ?_ w2.heap.size 0 #[.bool (bitB x 0), .bool (bitB x 1), .bool (bitB x 2), .bool (bitB x 3), .bool (bitB x 4), .bool (bitB x 5), .bool (bitB x 6), .bool (bitB x 7), .int .i64 ((x : Int) / 256 % 4), .int .u64 ((x : Int) / 1024 % 17592186044416)] ?_ HPX.out.range ?_ ?_); exact rfl; exact rfl; exact pte_row) | ((with_reducible refine wl_store 38 (.tmp 6) (.tmp 77) rfl ?_ (W.heap.size + 1) 38 #[.bool false, .bool false, .bool false, .bool false, .bool false, .bool false, .bool false, .bool false, .int .i64 0, .int .u64 0, .int .i64 0, .int .u64 0] #[.bool (bitB x 0), .bool (bitB x 1), .bool (bitB x 2), .bool (bitB x 3), .bool (bitB x 4), .bool (bitB x 5), .bool (bitB x 6), .bool (bitB x 7), .int .i64 ((x : Int) / 256 % 4), .int .u64 ((x : Int) / 1024 % 17592186044416), .int .i64 (j : Int), .int .u64 (at_ : Int)] ?_ ?_ HZ4.out ?_ ?_ ?_ ?_); exact rfl; exact rfl; exact rfl; exact rfl; exact leaf_row; exact el_one x j at_))
                refine bodyPost_ret (res_cell_slot (cs := #[.bool (bitB x 0), .bool (bitB x 1), .bool (bitB x 2), .bool (bitB x 3), .bool (bitB x 4), .bool (bitB x 5), .bool (bitB x 6), .bool (bitB x 7), .int .i64 ((x : Int) / 256 % 4), .int .u64 ((x : Int) / 1024 % 17592186044416), .int .i64 (j : Int), .int .u64 (at_ : Int)]) (v := .int .i64 0) rfl _ _ (W.heap.size + 1) 38 rfl rfl (HZ4.out.setRow _) leaf_row) rfl ⟨?_, below_setRow HB4.out (Nat.le_succ _) _⟩
                rw [HE.out]
                rfl
              · rw [hev]
                have HE : Hid (fd = .err 51) := Lib.hid (by rw [HG2.out, if_pos HLF.out, if_neg (by rw [hev]; decide)])
                clear hev
                go_wp2_with (first | ((with_reducible refine wl_store 38 (.tmp 6) (.tmp 73) rfl ?_ (W.heap.size + 1) 38 #[.bool false, .bool false, .bool false, .bool false, .bool false, .bool false, .bool false, .bool false, .int .i64 0, .int .u64 0, .int .i64 0, .int .u64 0] #[.bool false, .bool false, .bool false, .bool false, .bool false, .bool false, .bool false, .bool false, .int .i64 0, .int .u64 0, .int .i64 0, .int .u64 0] ?_ ?_ HZ4.out ?_ ?_ ?_ ?_); exact rfl; exact rfl; exact rfl; exact rfl; exact leaf_row; exact lzer_one))
                refine bodyPost_ret (res_cell_slot (cs := #[.bool false, .bool false, .bool false, .bool false, .bool false, .bool false, .bool false, .bool false, .int .i64 0, .int .u64 0, .int .i64 0, .int .u64 0]) (v := .int .i64 51) rfl _ _ (W.heap.size + 1) 38 rfl rfl (HZ4.out.setRow _) leaf_row) rfl ⟨?_, below_setRow HB4.out (Nat.le_succ _) _⟩
                rw [HE.out]
                rfl
            · rw [h1] at hr1
              rcases Bool.eq_false_or_eq_true (bitB x 3) with h3 | h3
              · rw [h3] at hr3
                have HLF : Hid (leafX x = true) := Lib.hid (by unfold leafX; rw [h1, h3, Bool.or_true])
                have hs9 : ∀ W', Ext w4.drew W' → W'.cell? ⟨w2.heap.size, 9, none⟩ = some (.int .u64 ((ppnX x : Nat) : Int)) := fun W' h => (h.cell HP4.out.drew.lt).trans (HP4.out.cell 9)
                have hsz : ¬ (spanV (j : Int) = 0) := by have := span_pos HJ.out; omega
                clear h1 HBD h3
                go_wp2_with fail
                clear hr1 hr3
                refine wp_region_plan [(0, false), (1, false), (2, false), (3, false), (4, true), (5, false), (6, false)] (by kernel_rfl) (by kernel_rfl) (fun _ d _ _ _ h => by cases d <;> exact h) ?_
                iterate 4 (refine plan_take (v := ?_) rfl (by kernel_rfl) ?_ ?_; rotate_left; (focus (intro w' hw'; try go_simp; try with_reducible rfl)); simp only [Act.put, List.setIfInBounds_toArray, List.set_cons_zero, List.set_cons_succ])
                refine plan_call rfl (by kernel_rfl) (by go_simp; exact ⟨rfl, rfl⟩) ?_
                refine (rspan_any j _).mono ?_
                rintro e w' ⟨rfl, rfl⟩
                refine ⟨_, rfl, Ext.refl _, ?_⟩
                simp only [Act.put, List.setIfInBounds_toArray, List.set_cons_zero, List.set_cons_succ]
                iterate 2 (refine plan_take (v := ?_) rfl (by kernel_rfl) ?_ ?_; rotate_left; (focus (intro w' hw'; try go_simp; try with_reducible rfl)); simp only [Act.put, List.setIfInBounds_toArray, List.set_cons_zero, List.set_cons_succ])
                refine plan_end ?_
                rw [even_span x j HJ.out]
                clear hs9 hsz
                have HZ4 := Lib.hid HZ4.out.drew
                have HP4 := Lib.hid HP4.out.drew
                have HB4 := Lib.hid HB4.out.drew
                rcases Bool.eq_false_or_eq_true (evenB (ppnX x) j) with hev | hev
                · rw [hev]
                  have HE : Hid (fd = .leaf x j at_) := Lib.hid (by rw [HG2.out, if_pos HLF.out, if_pos hev, ← HAX.out])
                  clear hev
                  have HPX : Hid (Blk w4.drew w2.heap.size 36 #[.bool (bitB x 0), .bool (bitB x 1), .bool (bitB x 2), .bool (bitB x 3), .bool (bitB x 4), .bool (bitB x 5), .bool (bitB x 6), .bool (bitB x 7), .int .i64 ((x : Int) / 256 % 4), .int .u64 ((x : Int) / 1024 % 17592186044416)]) := Lib.hid HP4.out
                  go_wp2_with (first | ((with_reducible refine wl_load 36 (.tmp 13) rfl ?_ w2.heap.size 0 #[.bool (bitB x 0), .bool (bitB x 1), .bool (bitB x 2), .bool (bitB x 3), .bool (bitB x 4), .bool (bitB x 5), .bool (bitB x 6), .bool (bitB x 7), .int .i64 ((x : Int) / 256 % 4), .int .u64 ((x : Int) / 1024 % 17592186044416)] ?_ HPX.out.range ?_ ?_); exact rfl; exact rfl; exact pte_row) | ((with_reducible refine wl_store 38 (.tmp 6) (.tmp 77) rfl ?_ (W.heap.size + 1) 38 #[.bool false, .bool false, .bool false, .bool false, .bool false, .bool false, .bool false, .bool false, .int .i64 0, .int .u64 0, .int .i64 0, .int .u64 0] #[.bool (bitB x 0), .bool (bitB x 1), .bool (bitB x 2), .bool (bitB x 3), .bool (bitB x 4), .bool (bitB x 5), .bool (bitB x 6), .bool (bitB x 7), .int .i64 ((x : Int) / 256 % 4), .int .u64 ((x : Int) / 1024 % 17592186044416), .int .i64 (j : Int), .int .u64 (at_ : Int)] ?_ ?_ HZ4.out ?_ ?_ ?_ ?_); exact rfl; exact rfl; exact rfl; exact rfl; exact leaf_row; exact el_one x j at_))
                  refine bodyPost_ret (res_cell_slot (cs := #[.bool (bitB x 0), .bool (bitB x 1), .bool (bitB x 2), .bool (bitB x 3), .bool (bitB x 4), .bool (bitB x 5), .bool (bitB x 6), .bool (bitB x 7), .int .i64 ((x : Int) / 256 % 4), .int .u64 ((x : Int) / 1024 % 17592186044416), .int .i64 (j : Int), .int .u64 (at_ : Int)]) (v := .int .i64 0) rfl _ _ (W.heap.size + 1) 38 rfl rfl (HZ4.out.setRow _) leaf_row) rfl ⟨?_, below_setRow HB4.out (Nat.le_succ _) _⟩
                  rw [HE.out]
                  rfl
                · rw [hev]
                  have HE : Hid (fd = .err 51) := Lib.hid (by rw [HG2.out, if_pos HLF.out, if_neg (by rw [hev]; decide)])
                  clear hev
                  go_wp2_with (first | ((with_reducible refine wl_store 38 (.tmp 6) (.tmp 73) rfl ?_ (W.heap.size + 1) 38 #[.bool false, .bool false, .bool false, .bool false, .bool false, .bool false, .bool false, .bool false, .int .i64 0, .int .u64 0, .int .i64 0, .int .u64 0] #[.bool false, .bool false, .bool false, .bool false, .bool false, .bool false, .bool false, .bool false, .int .i64 0, .int .u64 0, .int .i64 0, .int .u64 0] ?_ ?_ HZ4.out ?_ ?_ ?_ ?_); exact rfl; exact rfl; exact rfl; exact rfl; exact leaf_row; exact lzer_one))
                  refine bodyPost_ret (res_cell_slot (cs := #[.bool false, .bool false, .bool false, .bool false, .bool false, .bool false, .bool false, .bool false, .int .i64 0, .int .u64 0, .int .i64 0, .int .u64 0]) (v := .int .i64 51) rfl _ _ (W.heap.size + 1) 38 rfl rfl (HZ4.out.setRow _) leaf_row) rfl ⟨?_, below_setRow HB4.out (Nat.le_succ _) _⟩
                  rw [HE.out]
                  rfl
              · rw [h3] at hr3
                have HLF : Hid (leafX x = false) := Lib.hid (by unfold leafX; rw [h1, h3]; rfl)
                clear h1 h3 HBD
                have hr4 := HP4.out.cell 4
                have hr6 := HP4.out.cell 6
                have hr7 := HP4.out.cell 7
                have hr9 := HP4.out.cell 9
                rw [show (pteC x)[4]? = some (.bool (bitB x 4)) from rfl] at hr4
                rw [show (pteC x)[6]? = some (.bool (bitB x 6)) from rfl] at hr6
                rw [show (pteC x)[7]? = some (.bool (bitB x 7)) from rfl] at hr7
                rw [show (pteC x)[9]? = some (.int .u64 ((ppnX x : Nat) : Int)) from rfl] at hr9
                rcases Bool.eq_false_or_eq_true (bitB x 4) with h4 | h4
                · rw [h4] at hr4
                  have HE : Hid (fd = .err 51) := Lib.hid (by rw [HG2.out, if_neg (by rw [HLF.out]; decide), if_neg (by unfold leadX; rw [h4]; simp)])
                  clear h4
                  go_wp2_with (first | ((with_reducible refine wl_store 38 (.tmp 6) (.tmp 88) rfl ?_ (W.heap.size + 1) 38 #[.bool false, .bool false, .bool false, .bool false, .bool false, .bool false, .bool false, .bool false, .int .i64 0, .int .u64 0, .int .i64 0, .int .u64 0] #[.bool false, .bool false, .bool false, .bool false, .bool false, .bool false, .bool false, .bool false, .int .i64 0, .int .u64 0, .int .i64 0, .int .u64 0] ?_ ?_ HZ4.out ?_ ?_ ?_ ?_); exact rfl; exact rfl; exact rfl; exact rfl; exact leaf_row; exact lzer_one))
                  refine bodyPost_ret (res_cell_slot (cs := #[.bool false, .bool false, .bool false, .bool false, .bool false, .bool false, .bool false, .bool false, .int .i64 0, .int .u64 0, .int .i64 0, .int .u64 0]) (v := .int .i64 51) rfl _ _ (W.heap.size + 1) 38 rfl rfl (HZ4.out.setRow _) leaf_row) rfl ⟨?_, below_setRow HB4.out (Nat.le_succ _) _⟩
                  rw [HE.out]
                  rfl
                · rw [h4] at hr4
                  rcases Bool.eq_false_or_eq_true (bitB x 6) with h6 | h6
                  · rw [h6] at hr6
                    have HE : Hid (fd = .err 51) := Lib.hid (by rw [HG2.out, if_neg (by rw [HLF.out]; decide), if_neg (by unfold leadX; rw [h6]; simp)])
                    clear h4 h6
                    go_wp2_with (first | ((with_reducible refine wl_store 38 (.tmp 6) (.tmp 88) rfl ?_ (W.heap.size + 1) 38 #[.bool false, .bool false, .bool false, .bool false, .bool false, .bool false, .bool false, .bool false, .int .i64 0, .int .u64 0, .int .i64 0, .int .u64 0] #[.bool false, .bool false, .bool false, .bool false, .bool false, .bool false, .bool false, .bool false, .int .i64 0, .int .u64 0, .int .i64 0, .int .u64 0] ?_ ?_ HZ4.out ?_ ?_ ?_ ?_); exact rfl; exact rfl; exact rfl; exact rfl; exact leaf_row; exact lzer_one))
                    refine bodyPost_ret (res_cell_slot (cs := #[.bool false, .bool false, .bool false, .bool false, .bool false, .bool false, .bool false, .bool false, .int .i64 0, .int .u64 0, .int .i64 0, .int .u64 0]) (v := .int .i64 51) rfl _ _ (W.heap.size + 1) 38 rfl rfl (HZ4.out.setRow _) leaf_row) rfl ⟨?_, below_setRow HB4.out (Nat.le_succ _) _⟩
                    rw [HE.out]
                    rfl
                  · rw [h6] at hr6
                    rcases Bool.eq_false_or_eq_true (bitB x 7) with h7 | h7
                    · rw [h7] at hr7
                      have HE : Hid (fd = .err 51) := Lib.hid (by rw [HG2.out, if_neg (by rw [HLF.out]; decide), if_neg (by unfold leadX; rw [h7]; simp)])
                      clear h4 h6 h7
                      go_wp2_with (first | ((with_reducible refine wl_store 38 (.tmp 6) (.tmp 88) rfl ?_ (W.heap.size + 1) 38 #[.bool false, .bool false, .bool false, .bool false, .bool false, .bool false, .bool false, .bool false, .int .i64 0, .int .u64 0, .int .i64 0, .int .u64 0] #[.bool false, .bool false, .bool false, .bool false, .bool false, .bool false, .bool false, .bool false, .int .i64 0, .int .u64 0, .int .i64 0, .int .u64 0] ?_ ?_ HZ4.out ?_ ?_ ?_ ?_); exact rfl; exact rfl; exact rfl; exact rfl; exact leaf_row; exact lzer_one))
                      refine bodyPost_ret (res_cell_slot (cs := #[.bool false, .bool false, .bool false, .bool false, .bool false, .bool false, .bool false, .bool false, .int .i64 0, .int .u64 0, .int .i64 0, .int .u64 0]) (v := .int .i64 51) rfl _ _ (W.heap.size + 1) 38 rfl rfl (HZ4.out.setRow _) leaf_row) rfl ⟨?_, below_setRow HB4.out (Nat.le_succ _) _⟩
                      rw [HE.out]
                      rfl
                    · rw [h7] at hr7
                      have HE : Hid (fd = rfF n S va j (ppnX x)) := Lib.hid (by
                        rw [HG2.out, if_neg (by rw [HLF.out]; decide)]
                        unfold leadX
                        rw [h4, h6, h7]
                        rcases j with _ | j
                        · rfl
                        · simp)
                      clear h4 h6 h7
                      go_wp2_with fail
                      have hw1 : wrap64 ((j : Int) - 1) = (j : Int) - 1 := IntWalk.wrap64_in _ (by have := HJ.out; omega)
                      rw [hw1]
                      go_roundw
                      case rel => exact ⟨j, ppnX x, by have := HJ.out; omega, Nat.lt_trans (ppnX_lt _) (by decide), rfl, rfl, HE.out, HZ4.out, HB4.out⟩
                      case measure => show (((j : Int) - 1) + 1).toNat < ((j : Int) + 1).toNat; omega
          · rw [hg]
            have HE : Hid (fd = .err 51) := Lib.hid (HBD.out hg)
            clear hg HG HBD
            go_wp2_with (first | ((with_reducible refine wl_store 38 (.tmp 6) (.tmp 59) rfl ?_ (W.heap.size + 1) 38 #[.bool false, .bool false, .bool false, .bool false, .bool false, .bool false, .bool false, .bool false, .int .i64 0, .int .u64 0, .int .i64 0, .int .u64 0] #[.bool false, .bool false, .bool false, .bool false, .bool false, .bool false, .bool false, .bool false, .int .i64 0, .int .u64 0, .int .i64 0, .int .u64 0] ?_ ?_ HZ4.out ?_ ?_ ?_ ?_); exact rfl; exact rfl; exact rfl; exact rfl; exact leaf_row; exact lzer_one))
            refine bodyPost_ret (res_cell_slot (cs := #[.bool false, .bool false, .bool false, .bool false, .bool false, .bool false, .bool false, .bool false, .int .i64 0, .int .u64 0, .int .i64 0, .int .u64 0]) (v := .int .i64 51) rfl _ _ (W.heap.size + 1) 38 rfl rfl (HZ4.out.setRow _) leaf_row) rfl ⟨?_, below_setRow HB4.out (Nat.le_succ _) _⟩
            rw [HE.out]
            rfl
        · rw [h54] at hgx ⊢
          rw [Bool.false_and] at hgx
          have HE : Hid (fd = .err 51) := Lib.hid (HBD.out hgx)
          clear hgx h54 HG HBD
          go_wp2_with (first | ((with_reducible refine wl_store 38 (.tmp 6) (.tmp 59) rfl ?_ (W.heap.size + 1) 38 #[.bool false, .bool false, .bool false, .bool false, .bool false, .bool false, .bool false, .bool false, .int .i64 0, .int .u64 0, .int .i64 0, .int .u64 0] #[.bool false, .bool false, .bool false, .bool false, .bool false, .bool false, .bool false, .bool false, .int .i64 0, .int .u64 0, .int .i64 0, .int .u64 0] ?_ ?_ HZ3.out ?_ ?_ ?_ ?_); exact rfl; exact rfl; exact rfl; exact rfl; exact leaf_row; exact lzer_one) | ((with_reducible refine wl_store_new 36 (.tmp 13) (.tmp 50) rfl ?_ w2 (World.heap w2).size 36 #[.bool false, .bool false, .bool false, .bool false, .bool false, .bool false, .bool false, .bool false, .int .i64 0, .int .u64 0] (pteC x) ?_ ?_ ?_ ?_ ?_ ?_ ?_ ?_); exact rfl; exact rfl; exact rfl; exact rfl; exact rfl; exact rfl; exact pteC_row x; exact pteC_one x))
          refine bodyPost_ret (res_cell_slot (cs := #[.bool false, .bool false, .bool false, .bool false, .bool false, .bool false, .bool false, .bool false, .int .i64 0, .int .u64 0, .int .i64 0, .int .u64 0]) (v := .int .i64 51) rfl _ _ (W.heap.size + 1) 38 rfl rfl (HZ3.out.setRow _) leaf_row) rfl ⟨?_, below_setRow HB3.out (Nat.le_succ _) _⟩
          rw [HE.out]
          rfl
      · have HE : Hid (fd = .err 61) := Lib.hid (HF.out.trans (rfd_chk (by rw [← HAX.out, ← hc]; exact hc0)))
        have hne : (c != 0) = true := by simpa using hc0
        clear hc hx hc0 HF
        go_wp2_with (first | ((with_reducible refine wl_store 38 (.tmp 6) (.tmp 46) rfl ?_ (W.heap.size + 1) 38 #[.bool false, .bool false, .bool false, .bool false, .bool false, .bool false, .bool false, .bool false, .int .i64 0, .int .u64 0, .int .i64 0, .int .u64 0] #[.bool false, .bool false, .bool false, .bool false, .bool false, .bool false, .bool false, .bool false, .int .i64 0, .int .u64 0, .int .i64 0, .int .u64 0] ?_ ?_ HZ1.out ?_ ?_ ?_ ?_); exact rfl; exact rfl; exact rfl; exact rfl; exact leaf_row; exact lzer_one))
        refine bodyPost_ret (res_cell_slot (cs := #[.bool false, .bool false, .bool false, .bool false, .bool false, .bool false, .bool false, .bool false, .int .i64 0, .int .u64 0, .int .i64 0, .int .u64 0]) (v := .int .i64 61) rfl _ _ (W.heap.size + 1) 38 rfl rfl (HZ1.out.setRow _) leaf_row) rfl ⟨?_, below_setRow HB1.out (Nat.le_succ _) _⟩
        rw [HE.out]
        rfl
end Go.Proofs.Ytmnpakfihfjfiaa
