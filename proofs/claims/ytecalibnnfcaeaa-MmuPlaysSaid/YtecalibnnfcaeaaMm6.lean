/- Merged texts: WalkF, WalkG, MmuA, WalkL, WalkJ. -/
import Derived.Test.YtecalibnnfcaeaaMm5
import Derived.Test.YtecalibnnfcaeaaObjs
import Derived.Test.YtecalibnnfcaeaaPlan
import Derived.Test.YtecalibnnfcaeaaWide
import Derived.DeepKeys
/- Find. -/
namespace Go.Proofs.Ytecalibnnfcaeaa
open Go.RowKit

def fdV : Fd → Value
  | .err _ => .agg #[.bool false, .bool false, .bool false, .bool false, .bool false, .bool false, .bool false, .bool false, .int .i64 0, .int .u64 0, .int .i64 0, .int .u64 0]
  | .leaf x l a => .agg #[.bool (bitB x 0), .bool (bitB x 1), .bool (bitB x 2), .bool (bitB x 3), .bool (bitB x 4), .bool (bitB x 5), .bool (bitB x 6), .bool (bitB x 7), .int .i64 ((x : Int) / 256 % 4), .int .u64 ((x : Int) / 1024 % 17592186044416), .int .i64 (l : Int), .int .u64 (a : Int)]
def fdE : Fd → Int
  | .err e => e
  | .leaf _ _ _ => 0
/-- What is found of an address. -/
def findW (n : Nat) (S : Nat → List Nat) (on : Bool) (ppn va : Nat) : Fd := if on then (if canonB va then findF n S va 2 ppn else .err 51) else .err 2
theorem leafx_any (x : Nat) (W : World) : Calls Try.prog 77 #[.agg #[.bool (bitB x 0), .bool (bitB x 1), .bool (bitB x 2), .bool (bitB x 3), .bool (bitB x 4), .bool (bitB x 5), .bool (bitB x 6), .bool (bitB x 7), .int .i64 ((x : Int) / 256 % 4), .int .u64 ((x : Int) / 1024 % 17592186044416)]] W fun e w' => e = .returned (.bool (leafX x)) ∧ Below W.heap.size W w' := leaf_any _ _ _ _ _ _ _ _ _ _ _
theorem leadsx_any (x l : Nat) (hl : l ≤ 2) (W : World) : Calls Try.prog 90 #[.agg #[.bool (bitB x 0), .bool (bitB x 1), .bool (bitB x 2), .bool (bitB x 3), .bool (bitB x 4), .bool (bitB x 5), .bool (bitB x 6), .bool (bitB x 7), .int .i64 ((x : Int) / 256 % 4), .int .u64 ((x : Int) / 1024 % 17592186044416)], .int .i64 (l : Int)] W fun e w' => e = .returned (.bool (leadX x l)) ∧ Below W.heap.size W w' := leads_any _ _ _ _ _ _ _ _ _ _ _ _ hl
theorem fr_intro {Φ : (Nat → Value) → Act} (a : Act) (h : a = Φ (fun i => a.tmps.getD i undef)) : ∃ x, a = Φ x := ⟨_, h⟩
theorem fdAt_err {n : Nat} {S : Nat → List Nat} {va l t : Nat} {k : Fd} (h : entE n S (atX va t l) ≠ 0) : fdAt n S va l t k = .err (entE n S (atX va t l)) := by
  unfold fdAt entE at *
  split
  · rename_i h1
    rw [if_pos h1] at h
    split
    · rename_i h2; rw [if_pos h2] at h; exact absurd rfl h
    · rename_i h2; rfl
  · rfl
theorem fdAt_ok {n : Nat} {S : Nat → List Nat} {va l t : Nat} {k : Fd} (h : entE n S (atX va t l) = 0) : fdAt n S va l t k =
    if leafX (ldR n S (atX va t l) 8) then (if evenB (ppnX (ldR n S (atX va t l) 8)) l then .leaf (ldR n S (atX va t l) 8) l (atX va t l) else .err 51)
      else if leadX (ldR n S (atX va t l) 8) l then k else .err 51 := by
  unfold entE at h
  unfold fdAt
  split at h
  · rename_i h1
    rw [if_pos h1]
    split at h
    · rename_i h2
      rw [if_pos h2]
    · cases h
  · cases h
def nextF (n : Nat) (S : Nat → List Nat) (va t : Nat) : Nat → Fd
  | 0 => .err 51
  | k + 1 => findF n S va k (ppnX (ldR n S (atX va t (k + 1)) 8))
theorem find_eq (n : Nat) (S : Nat → List Nat) (va l t : Nat) : findF n S va l t = fdAt n S va l t (nextF n S va t l) := by
  cases l <;> rfl
theorem ppn_x (x : Nat) : (x : Int) / 1024 % 17592186044416 = ((ppnX x : Nat) : Int) := by unfold ppnX; omega
theorem lead_pos {x l : Nat} (h : leadX x l = true) : ∃ m, l = m + 1 := by
  cases l with
  | zero => simp [leadX] at h
  | succ m => exact ⟨m, rfl⟩
theorem el_one (x l a : Nat) : (#[.bool (bitB x 0), .bool (bitB x 1), .bool (bitB x 2), .bool (bitB x 3), .bool (bitB x 4), .bool (bitB x 5), .bool (bitB x 6), .bool (bitB x 7), .int .i64 ((x : Int) / 256 % 4), .int .u64 ((x : Int) / 1024 % 17592186044416), .int .i64 (l : Int), .int .u64 (a : Int)] : Array Value).all (·.oneCell') = true := by simp [Value.oneCell']
theorem lzer_one : (#[.bool false, .bool false, .bool false, .bool false, .bool false, .bool false, .bool false, .bool false, .int .i64 0, .int .u64 0, .int .i64 0, .int .u64 0] : Array Value).all (·.oneCell') = true := by simp [Value.oneCell']
theorem Mem.drew {w : World} {g n : Nat} {F : Nat → Prop} {S : Nat → List Nat} (h : Mem w g F n S) : Mem w.drew g F n S := h.keeps (G := fun _ => False) (Keeps.refl _ _).drew (fun _ _ h => h)
/-- What holds at the label. -/
def DnJ (g n va : Nat) (F : Nat → Prop) (S : Nat → List Nat) (fd : Fd) (W : World) (a : Act) (w : World) : Prop :=
  ∃ (l t pb : Nat) (c : Nat → Value), (∃ x : Nat → Value, a = ⟨#[.pointer (some ⟨g, 0, none⟩), x 1, .int .u64 (va : Int), x 3, x 4, x 5, .pointer (some ⟨W.heap.size + 1, 0, none⟩), .int .i64 0, x 8, .pointer (some ⟨pb, 0, none⟩), x 10, .int .i64 (l : Int), .int .u64 (t : Int), x 13, x 14, x 15, x 16, x 17, x 18, x 19, x 20, x 21, x 22, x 23, x 24, x 25, x 26, x 27, x 28, x 29, x 30, x 31, x 32, x 33, x 34, x 35, x 36, x 37, x 38, x 39, x 40, x 41, x 42, x 43, x 44, x 45, x 46, x 47, x 48, x 49, x 50, x 51, x 52, x 53, x 54, x 55, x 56, x 57, x 58, x 59, x 60, x 61, x 62, x 63, x 64, x 65, x 66, x 67, x 68, x 69, x 70, x 71, x 72, x 73, x 74], []⟩) ∧ l ≤ 2 ∧ t < 18446744073709551616 ∧ fd = findF n S va l t ∧
    Blk w (W.heap.size + 1) 97 #[.bool false, .bool false, .bool false, .bool false, .bool false, .bool false, .bool false, .bool false, .int .i64 0, .int .u64 0, .int .i64 0, .int .u64 0] ∧ Blk w pb 95 #[c 0, c 1, c 2, c 3, c 4, c 5, c 6, c 7, c 8, c 9] ∧ W.heap.size + 1 < pb ∧ Below W.heap.size W w
theorem at_wrap (va t : Nat) (l : Nat) : IntKind.u64.wrap (IntKind.u64.wrap ((t : Int) * 4096) + IntKind.u64.wrap (8 * IntKind.u64.wrap ((indexV va (l : Int) : Nat) : Int))) = ((atX va t l : Nat) : Int) := by
  rw [IntKind.wrap_u64, IntKind.wrap_u64, IntKind.wrap_u64, IntKind.wrap_u64]
  unfold atX
  omega
theorem u64_ix (va : Nat) (l : Int) : IntKind.u64.wrap ((indexV va l : Nat) : Int) = ((indexV va l : Nat) : Int) := by
  have : indexV va l < 512 := by
    unfold indexV
    split
    · exact fieldV_lt _ _ _
    · decide
  rw [IntKind.wrap_u64]; omega
set_option maxHeartbeats 4000000 in
theorem find_any (g n va ppn : Nat) (asid : Int) (on : Bool) (F : Nat → Prop) (S : Nat → List Nat) (W : World) (h : Mem W g F n S) (hv : va < 18446744073709551616) (hp : ppn < 18446744073709551616) (hon : on = true) (hca : canonB va = true) :
    Calls Try.prog 74 #[.pointer (some ⟨g, 0, none⟩), .agg #[.bool on, .int .i64 asid, .int .u64 (ppn : Int)], .int .u64 (va : Int)] W fun e w' =>
      e = .returned (.tuple #[fdV (findF n S va 2 ppn), .int .i64 (fdE (findF n S va 2 ppn))]) ∧ Below W.heap.size W w' := by
  have HM := Lib.hid h
  have HV := Lib.hid hv
  have HP := Lib.hid hp
  have HC := Lib.hid hca
  have HA : Hid (∃ W3, W3 = ((W.alloc (.cells #[.bool true, .int .i64 asid, .int .u64 (ppn : Int)] 43)).alloc (.cells #[.bool false, .bool false, .bool false, .bool false, .bool false, .bool false, .bool false, .bool false, .int .i64 0, .int .u64 0, .int .i64 0, .int .u64 0] 97)).alloc (.cells #[.bool false, .bool false, .bool false, .bool false, .bool false, .bool false, .bool false, .bool false, .int .i64 0, .int .u64 0] 95) ∧ W3.cell? ⟨W.heap.size, 2, none⟩ = some (.int .u64 (ppn : Int)) ∧ Blk W3 (W.heap.size + 1) 97 #[.bool false, .bool false, .bool false, .bool false, .bool false, .bool false, .bool false, .bool false, .int .i64 0, .int .u64 0, .int .i64 0, .int .u64 0] ∧ Blk W3 (W.heap.size + 1 + 1) 95 #[.bool false, .bool false, .bool false, .bool false, .bool false, .bool false, .bool false, .bool false, .int .i64 0, .int .u64 0] ∧ Below W.heap.size W W3 ∧ W.heap.size < W3.heap.size) := by
    refine Lib.hid ⟨_, rfl, by simp [go_sem], ?_, Blkf.new_at _ _ _ _ (by simp), (((Below.refl _ _).alloc (Nat.le_refl _) _).alloc (by simp) _).alloc (by simp; omega) _, by simp; omega⟩
    exact (Blkf.new_at _ _ _ _ (by simp)).alloc _
  clear h hv hp hca
  subst hon
  obtain ⟨fd, hfd⟩ : ∃ fd, fd = findF n S va 2 ppn := ⟨_, rfl⟩
  have HF := Lib.hid hfd
  rw [← hfd]
  clear hfd
  go_enter Try.func74, Try.ntmps74
  go_wp2_with fail
  refine wp_scope_jumps 0 (DnJ g n va F S fd W) (fun a _ => (intOf (a.tmps.getD 11 undef)).toNat) rfl ?_ ?_
  · go_wp2_with fail
    refine (canon_any va _ HV.out).mono ?_
    rintro e w' ⟨rfl, rfl⟩
    rw [HC.out]
    go_wp2_with fail
    obtain ⟨W3, hW3, hc2, hz, hpb, hb3, hsz⟩ := HA.out
    rw [← hW3]
    clear hW3
    have HZ := Lib.hid hz
    have HPB := Lib.hid hpb
    have HB3 := Lib.hid hb3
    have hs : ∀ W', Ext W3.drew W' → W'.cell? ⟨W.heap.size, 2, none⟩ = some (.int .u64 (ppn : Int)) := fun W' h => (h.cell hsz).trans hc2
    clear hz hpb hb3
    refine wp_region_plan [(0, false), (1, false), (2, false), (3, false)] (by kernel_rfl) (by kernel_rfl) (fun _ d _ _ _ h => by cases d <;> exact h) ?_
    iterate 4 (refine plan_take (v := ?_) rfl (by kernel_rfl) ?_ ?_; rotate_left; (focus (intro w' hw'; try go_simp; try with_reducible rfl)); simp only [Act.put, List.setIfInBounds_toArray, List.set_cons_zero, List.set_cons_succ])
    refine plan_end ?_
    go_wp2_with fail
    go_step3
    have HMW := Lib.hid ((HM.out.below HB3.out).drew)
    replace HZ := Lib.hid HZ.out.drew
    replace HPB := Lib.hid HPB.out.drew
    have HB := Lib.hid HB3.out.drew
    have HNE : Hid (W.heap.size + 1 < W.heap.size + 1 + 1) := Lib.hid (by omega)
    go_wp2_with fail
    refine (index_any va 2 _ HV.out).mono ?_
    rintro e w' ⟨rfl, rfl⟩
    go_wp2_with fail
    rw [show IntKind.u64.wrap (IntKind.u64.wrap ((ppn : Int) * 4096) + IntKind.u64.wrap (8 * IntKind.u64.wrap ((indexV va 2 : Nat) : Int))) = ((atX va ppn 2 : Nat) : Int) from at_wrap va ppn 2]
    have HEQ := Lib.hid (HF.out.trans (find_eq n S va 2 ppn))
    generalize hatx : atX va ppn 2 = at_ at *
    have HAT : Hid (at_ < 18446744073709551616) := Lib.hid (by rw [← hatx]; exact atX_lt _ _ _)
    have HAX := Lib.hid hatx
    clear hatx
    refine (entry_any g n at_ F S _ HMW.out HAT.out).mono ?_
    rintro e w1 ⟨rfl, hb1⟩
    have HZ1 := Lib.hid (HZ.out.below hb1 HZ.out.lt)
    have HPB1 := Lib.hid (HPB.out.below hb1 HPB.out.lt)
    have HB1 := Lib.hid (HB.out.trans (hb1.mono HB.out.size))
    have HZ2 : Hid (∀ cs, Blkf (w1.setRow (W.heap.size + 1 + 1) cs) (W.heap.size + 1) 97 (0, 0) #[.bool false, .bool false, .bool false, .bool false, .bool false, .bool false, .bool false, .bool false, .int .i64 0, .int .u64 0, .int .i64 0, .int .u64 0]) := Lib.hid fun cs => HZ1.out.setRow_far (by have := HNE.out; omega) cs
    have HB2 : Hid (∀ cs, Below W.heap.size W (w1.setRow (W.heap.size + 1 + 1) cs)) := Lib.hid fun cs => below_setRow HB1.out (by have := HNE.out; omega) cs
    clear hb1
    by_cases hE : entE n S at_ = 0
    · have hV : entV n S at_ = entryV (ldR n S at_ 8) := if_pos hE
      rw [hV, hE]
      have hok := fdAt_ok (n := n) (S := S) (va := va) (l := 2) (t := ppn) (k := nextF n S va ppn 2) (by rw [HAX.out]; exact hE)
      rw [← HEQ.out, HAX.out] at hok
      obtain ⟨x0, hx0⟩ : ∃ x0, x0 = ldR n S at_ 8 := ⟨_, rfl⟩
      rw [← hx0] at hok ⊢
      have HOK := Lib.hid hok
      have HX0 := Lib.hid hx0
      clear hok hx0 hV hE
      have HPB2 := Lib.hid (HPB1.out.setRow (#[.bool (bitB x0 0), .bool (bitB x0 1), .bool (bitB x0 2), .bool (bitB x0 3), .bool (bitB x0 4), .bool (bitB x0 5), .bool (bitB x0 6), .bool (bitB x0 7), .int .i64 ((x0 : Int) / 256 % 4), .int .u64 ((x0 : Int) / 1024 % 17592186044416)]))
      have hp2 : ∀ W', Ext (w1.setRow (W.heap.size + 1 + 1) (#[.bool (bitB x0 0), .bool (bitB x0 1), .bool (bitB x0 2), .bool (bitB x0 3), .bool (bitB x0 4), .bool (bitB x0 5), .bool (bitB x0 6), .bool (bitB x0 7), .int .i64 ((x0 : Int) / 256 % 4), .int .u64 ((x0 : Int) / 1024 % 17592186044416)])) W' → Blk W' (W.heap.size + 1 + 1) 95 (#[.bool (bitB x0 0), .bool (bitB x0 1), .bool (bitB x0 2), .bool (bitB x0 3), .bool (bitB x0 4), .bool (bitB x0 5), .bool (bitB x0 6), .bool (bitB x0 7), .int .i64 ((x0 : Int) / 256 % 4), .int .u64 ((x0 : Int) / 1024 % 17592186044416)]) := fun W' h => HPB2.out.below h HPB2.out.lt
      go_wp2_with (first | ((with_reducible refine wl_store 95 (.tmp 9) (.tmp 41) rfl ?_ (W.heap.size + 1 + 1) 95 _ #[.bool (bitB x0 0), .bool (bitB x0 1), .bool (bitB x0 2), .bool (bitB x0 3), .bool (bitB x0 4), .bool (bitB x0 5), .bool (bitB x0 6), .bool (bitB x0 7), .int .i64 ((x0 : Int) / 256 % 4), .int .u64 ((x0 : Int) / 1024 % 17592186044416)] ?_ ?_ HPB1.out ?_ ?_ ?_ ?_); exact rfl; exact rfl; exact rfl; exact rfl; exact pte_row; exact pte_one x0) | ((with_reducible refine wl_load 95 (.tmp 9) rfl ?_ (W.heap.size + 1 + 1) 0 #[.bool (bitB x0 0), .bool (bitB x0 1), .bool (bitB x0 2), .bool (bitB x0 3), .bool (bitB x0 4), .bool (bitB x0 5), .bool (bitB x0 6), .bool (bitB x0 7), .int .i64 ((x0 : Int) / 256 % 4), .int .u64 ((x0 : Int) / 1024 % 17592186044416)] ?_ HPB2.out.range ?_ ?_); exact rfl; exact rfl; exact pte_row))
      refine (leafx_any x0 _).mono ?_
      rintro e w2 ⟨rfl, hb2⟩
      have HZ3 := Lib.hid ((HZ2.out _).below hb2 (HZ2.out _).lt)
      have HPB3 := Lib.hid (HPB2.out.below hb2 HPB2.out.lt)
      have HB3' := Lib.hid ((HB2.out _).trans (hb2.mono (HB2.out _).size))
      clear hb2 hp2
      have hc9 := HPB3.out.cell 9
      simp at hc9
      rcases Bool.eq_false_or_eq_true (leafX x0) with hlf | hlf
      · rw [hlf]
        go_wp2_with (first | ((with_reducible refine wl_load 95 (.tmp 9) rfl ?_ (W.heap.size + 1 + 1) 0 #[.bool (bitB x0 0), .bool (bitB x0 1), .bool (bitB x0 2), .bool (bitB x0 3), .bool (bitB x0 4), .bool (bitB x0 5), .bool (bitB x0 6), .bool (bitB x0 7), .int .i64 ((x0 : Int) / 256 % 4), .int .u64 ((x0 : Int) / 1024 % 17592186044416)] ?_ HPB3.out.range ?_ ?_); exact rfl; exact rfl; exact pte_row))
        rw [ppn_x]
        refine (even_any (ppnX x0) 2 _ (Nat.lt_trans (ppnX_lt _) (by decide)) (by decide)).mono ?_
        rintro e w3 ⟨rfl, rfl⟩
        rcases Bool.eq_false_or_eq_true (evenB (ppnX x0) 2) with hev | hev
        · rw [hev]
          have HFE : Hid (fd = .leaf x0 2 at_) := Lib.hid (by rw [HOK.out, if_pos hlf, if_pos hev])
          clear hlf hev
          go_wp2_with (first | ((with_reducible refine wl_load 95 (.tmp 9) rfl ?_ (W.heap.size + 1 + 1) 0 #[.bool (bitB x0 0), .bool (bitB x0 1), .bool (bitB x0 2), .bool (bitB x0 3), .bool (bitB x0 4), .bool (bitB x0 5), .bool (bitB x0 6), .bool (bitB x0 7), .int .i64 ((x0 : Int) / 256 % 4), .int .u64 ((x0 : Int) / 1024 % 17592186044416)] ?_ HPB3.out.range ?_ ?_); exact rfl; exact rfl; exact pte_row) | ((with_reducible refine wl_store 97 (.tmp 6) (.tmp 60) rfl ?_ (W.heap.size + 1) 97 #[.bool false, .bool false, .bool false, .bool false, .bool false, .bool false, .bool false, .bool false, .int .i64 0, .int .u64 0, .int .i64 0, .int .u64 0] #[.bool (bitB x0 0), .bool (bitB x0 1), .bool (bitB x0 2), .bool (bitB x0 3), .bool (bitB x0 4), .bool (bitB x0 5), .bool (bitB x0 6), .bool (bitB x0 7), .int .i64 ((x0 : Int) / 256 % 4), .int .u64 ((x0 : Int) / 1024 % 17592186044416), .int .i64 (2 : Int), .int .u64 (at_ : Int)] ?_ ?_ HZ3.out ?_ ?_ ?_ ?_); exact rfl; exact rfl; exact rfl; exact rfl; exact leaf_row; exact el_one x0 2 at_))
          simp only [Exit.jump]
          refine bodyPost_ret (res_cell_slot (cs := #[.bool (bitB x0 0), .bool (bitB x0 1), .bool (bitB x0 2), .bool (bitB x0 3), .bool (bitB x0 4), .bool (bitB x0 5), .bool (bitB x0 6), .bool (bitB x0 7), .int .i64 ((x0 : Int) / 256 % 4), .int .u64 ((x0 : Int) / 1024 % 17592186044416), .int .i64 (2 : Int), .int .u64 (at_ : Int)]) (v := .int .i64 0) rfl _ _ (W.heap.size + 1) 97 rfl rfl (HZ3.out.setRow _) leaf_row) rfl ⟨?_, below_setRow HB3'.out (Nat.le_succ _) _⟩
          rw [HFE.out]
          rfl
        · rw [hev]
          have HFE : Hid (fd = .err 51) := Lib.hid (by rw [HOK.out, if_pos hlf, if_neg (by rw [hev]; decide)])
          go_wp2_with (first | ((with_reducible refine wl_load 95 (.tmp 9) rfl ?_ (W.heap.size + 1 + 1) 0 #[.bool (bitB x0 0), .bool (bitB x0 1), .bool (bitB x0 2), .bool (bitB x0 3), .bool (bitB x0 4), .bool (bitB x0 5), .bool (bitB x0 6), .bool (bitB x0 7), .int .i64 ((x0 : Int) / 256 % 4), .int .u64 ((x0 : Int) / 1024 % 17592186044416)] ?_ HPB3.out.range ?_ ?_); exact rfl; exact rfl; exact pte_row))
          refine (leafx_any x0 _).mono ?_
          rintro e w4 ⟨rfl, hb4⟩
          rw [hlf]
          have HZ4 := Lib.hid (HZ3.out.below hb4 HZ3.out.lt)
          have HB4 := Lib.hid (HB3'.out.trans (hb4.mono HB3'.out.size))
          clear hb4 hc9 hlf hev
          go_wp2_with (first | ((with_reducible refine wl_store 97 (.tmp 6) (.tmp 70) rfl ?_ (W.heap.size + 1) 97 #[.bool false, .bool false, .bool false, .bool false, .bool false, .bool false, .bool false, .bool false, .int .i64 0, .int .u64 0, .int .i64 0, .int .u64 0] #[.bool false, .bool false, .bool false, .bool false, .bool false, .bool false, .bool false, .bool false, .int .i64 0, .int .u64 0, .int .i64 0, .int .u64 0] ?_ ?_ HZ4.out ?_ ?_ ?_ ?_); exact rfl; exact rfl; exact rfl; exact rfl; exact leaf_row; exact lzer_one))
          simp only [Exit.jump]
          refine bodyPost_ret (res_cell_slot (cs := #[.bool false, .bool false, .bool false, .bool false, .bool false, .bool false, .bool false, .bool false, .int .i64 0, .int .u64 0, .int .i64 0, .int .u64 0]) (v := .int .i64 51) rfl _ _ (W.heap.size + 1) 97 rfl rfl (HZ4.out.setRow _) leaf_row) rfl ⟨?_, below_setRow HB4.out (Nat.le_succ _) _⟩
          rw [HFE.out]
          rfl
      · rw [hlf]
        go_wp2_with (first | ((with_reducible refine wl_load 95 (.tmp 9) rfl ?_ (W.heap.size + 1 + 1) 0 #[.bool (bitB x0 0), .bool (bitB x0 1), .bool (bitB x0 2), .bool (bitB x0 3), .bool (bitB x0 4), .bool (bitB x0 5), .bool (bitB x0 6), .bool (bitB x0 7), .int .i64 ((x0 : Int) / 256 % 4), .int .u64 ((x0 : Int) / 1024 % 17592186044416)] ?_ HPB3.out.range ?_ ?_); exact rfl; exact rfl; exact pte_row))
        refine (leafx_any x0 _).mono ?_
        rintro e w4 ⟨rfl, hb4⟩
        rw [hlf]
        have HZ4 := Lib.hid (HZ3.out.below hb4 HZ3.out.lt)
        have HPB4 := Lib.hid (HPB3.out.below hb4 HPB3.out.lt)
        have HB4 := Lib.hid (HB3'.out.trans (hb4.mono HB3'.out.size))
        clear hb4 hc9
        go_wp2_with (first | ((with_reducible refine wl_load 95 (.tmp 9) rfl ?_ (W.heap.size + 1 + 1) 0 #[.bool (bitB x0 0), .bool (bitB x0 1), .bool (bitB x0 2), .bool (bitB x0 3), .bool (bitB x0 4), .bool (bitB x0 5), .bool (bitB x0 6), .bool (bitB x0 7), .int .i64 ((x0 : Int) / 256 % 4), .int .u64 ((x0 : Int) / 1024 % 17592186044416)] ?_ HPB4.out.range ?_ ?_); exact rfl; exact rfl; exact pte_row))
        refine (leadsx_any x0 2 (by decide) _).mono ?_
        rintro e w5 ⟨rfl, hb5⟩
        have HZ5 := Lib.hid (HZ4.out.below hb5 HZ4.out.lt)
        have HPB5 := Lib.hid (HPB4.out.below hb5 HPB4.out.lt)
        have HB5 := Lib.hid (HB4.out.trans (hb5.mono HB4.out.size))
        clear hb5
        rcases Bool.eq_false_or_eq_true (leadX x0 2) with hld | hld
        · rw [hld]
          have HFE : Hid (fd = nextF n S va ppn 2) := Lib.hid (by rw [HOK.out, if_neg (by rw [hlf]; decide), if_pos hld])
          have hs : ∀ W', Ext w5.drew W' → W'.cell? ⟨(W.heap.size + 1 + 1), 9, none⟩ = some (.int .u64 ((x0 : Int) / 1024 % 17592186044416)) := fun W' h => (h.cell HPB5.out.drew.lt).trans (HPB5.out.cell 9)
          have HWR : Hid (IntKind.i64.wrap 1 = ((1 : Nat) : Int)) := Lib.hid rfl
          clear hlf hld
          go_wp2_with fail
          refine wp_region_plan [(0, false), (1, false), (2, false), (3, false), (4, false), (5, false)] (by kernel_rfl) (by kernel_rfl) (fun _ d _ _ _ h => by cases d <;> exact h) ?_
          iterate 6 (refine plan_take (v := ?_) rfl (by kernel_rfl) ?_ ?_; rotate_left; (focus (intro w' hw'; try go_simp; try with_reducible rfl)); simp only [Act.put, List.setIfInBounds_toArray, List.set_cons_zero, List.set_cons_succ])
          refine plan_end ?_
          go_wp2_with fail
          go_step3
          rw [ppn_x, HWR.out]
          refine ⟨rfl, 1, ppnX x0, (W.heap.size + 1 + 1), fun i => ((#[.bool (bitB x0 0), .bool (bitB x0 1), .bool (bitB x0 2), .bool (bitB x0 3), .bool (bitB x0 4), .bool (bitB x0 5), .bool (bitB x0 6), .bool (bitB x0 7), .int .i64 ((x0 : Int) / 256 % 4), .int .u64 ((x0 : Int) / 1024 % 17592186044416)]) : Array Value).getD i undef, fr_intro _ rfl, by decide, Nat.lt_trans (ppnX_lt _) (by decide), ?_, HZ5.out.drew, HPB5.out.drew, HNE.out, HB5.out.drew⟩
          rw [HFE.out, HX0.out, ← HAX.out]
          rfl
        · rw [hld]
          have HFE : Hid (fd = .err 51) := Lib.hid (by rw [HOK.out, if_neg (by rw [hlf]; decide), if_neg (by rw [hld]; decide)])
          clear hlf hld
          go_wp2_with (first | ((with_reducible refine wl_store 97 (.tmp 6) (.tmp 70) rfl ?_ (W.heap.size + 1) 97 #[.bool false, .bool false, .bool false, .bool false, .bool false, .bool false, .bool false, .bool false, .int .i64 0, .int .u64 0, .int .i64 0, .int .u64 0] #[.bool false, .bool false, .bool false, .bool false, .bool false, .bool false, .bool false, .bool false, .int .i64 0, .int .u64 0, .int .i64 0, .int .u64 0] ?_ ?_ HZ5.out ?_ ?_ ?_ ?_); exact rfl; exact rfl; exact rfl; exact rfl; exact leaf_row; exact lzer_one))
          simp only [Exit.jump]
          refine bodyPost_ret (res_cell_slot (cs := #[.bool false, .bool false, .bool false, .bool false, .bool false, .bool false, .bool false, .bool false, .int .i64 0, .int .u64 0, .int .i64 0, .int .u64 0]) (v := .int .i64 51) rfl _ _ (W.heap.size + 1) 97 rfl rfl (HZ5.out.setRow _) leaf_row) rfl ⟨?_, below_setRow HB5.out (Nat.le_succ _) _⟩
          rw [HFE.out]
          rfl
    · have hV : entV n S at_ = pteZ := if_neg hE
      rw [hV]
      have HFE : Hid (fd = .err (entE n S at_)) := Lib.hid (by rw [HEQ.out, ← HAX.out]; exact fdAt_err (by rw [HAX.out]; exact hE))
      have hne : (entE n S at_ != 0) = true := by simpa using hE
      clear hV hE
      generalize entE n S at_ = E at *
      go_wp2_with (first | ((with_reducible refine wl_store 95 (.tmp 9) (.tmp 41) rfl ?_ (W.heap.size + 1 + 1) 95 _ #[.bool false, .bool false, .bool false, .bool false, .bool false, .bool false, .bool false, .bool false, .int .i64 0, .int .u64 0] ?_ ?_ HPB1.out ?_ ?_ ?_ ?_); exact rfl; exact rfl; exact rfl; exact rfl; exact pte_row; exact zer_one) | ((with_reducible refine wl_store 97 (.tmp 6) (.tmp 46) rfl ?_ (W.heap.size + 1) 97 #[.bool false, .bool false, .bool false, .bool false, .bool false, .bool false, .bool false, .bool false, .int .i64 0, .int .u64 0, .int .i64 0, .int .u64 0] #[.bool false, .bool false, .bool false, .bool false, .bool false, .bool false, .bool false, .bool false, .int .i64 0, .int .u64 0, .int .i64 0, .int .u64 0] ?_ ?_ (HZ2.out _) ?_ ?_ ?_ ?_); exact rfl; exact rfl; exact rfl; exact rfl; exact leaf_row; exact lzer_one))
      simp only [Exit.jump]
      refine bodyPost_ret (res_cell_slot (cs := #[.bool false, .bool false, .bool false, .bool false, .bool false, .bool false, .bool false, .bool false, .int .i64 0, .int .u64 0, .int .i64 0, .int .u64 0]) (v := .int .i64 E) rfl _ _ (W.heap.size + 1) 97 rfl rfl ((HZ2.out _).setRow _) leaf_row) rfl ⟨?_, below_setRow (HB2.out _) (Nat.le_succ _) _⟩
      rw [HFE.out]
      rfl
  · rintro a w ⟨l, t, pb, c, ⟨x, rfl⟩, hl, ht, hfd, hz, hpb, hne, hb⟩
    clear HA HP HC
    have HL := Lib.hid hl
    have HT := Lib.hid ht
    clear HF
    have HF := Lib.hid hfd
    have HZ := Lib.hid hz
    have HPB := Lib.hid hpb
    have HNE := Lib.hid hne
    have HB := Lib.hid hb
    have HMW := Lib.hid (HM.out.below hb)
    clear hl ht hfd hz hpb hne hb
    go_wp2_with fail
    refine (index_any va l _ HV.out).mono ?_
    rintro e w' ⟨rfl, rfl⟩
    go_wp2_with fail
    rw [show IntKind.u64.wrap (IntKind.u64.wrap ((t : Int) * 4096) + IntKind.u64.wrap (8 * IntKind.u64.wrap ((indexV va l : Nat) : Int))) = ((atX va t l : Nat) : Int) from at_wrap va t l]
    have HEQ := Lib.hid (HF.out.trans (find_eq n S va l t))
    generalize hatx : atX va t l = at_ at *
    have HAT : Hid (at_ < 18446744073709551616) := Lib.hid (by rw [← hatx]; exact atX_lt _ _ _)
    have HAX := Lib.hid hatx
    clear hatx
    refine (entry_any g n at_ F S _ HMW.out HAT.out).mono ?_
    rintro e w1 ⟨rfl, hb1⟩
    have HZ1 := Lib.hid (HZ.out.below hb1 HZ.out.lt)
    have HPB1 := Lib.hid (HPB.out.below hb1 HPB.out.lt)
    have HB1 := Lib.hid (HB.out.trans (hb1.mono HB.out.size))
    have HZ2 : Hid (∀ cs, Blkf (w1.setRow pb cs) (W.heap.size + 1) 97 (0, 0) #[.bool false, .bool false, .bool false, .bool false, .bool false, .bool false, .bool false, .bool false, .int .i64 0, .int .u64 0, .int .i64 0, .int .u64 0]) := Lib.hid fun cs => HZ1.out.setRow_far (by have := HNE.out; omega) cs
    have HB2 : Hid (∀ cs, Below W.heap.size W (w1.setRow pb cs)) := Lib.hid fun cs => below_setRow HB1.out (by have := HNE.out; omega) cs
    clear hb1
    by_cases hE : entE n S at_ = 0
    · have hV : entV n S at_ = entryV (ldR n S at_ 8) := if_pos hE
      rw [hV, hE]
      have hok := fdAt_ok (n := n) (S := S) (va := va) (l := l) (t := t) (k := nextF n S va t l) (by rw [HAX.out]; exact hE)
      rw [← HEQ.out, HAX.out] at hok
      obtain ⟨x0, hx0⟩ : ∃ x0, x0 = ldR n S at_ 8 := ⟨_, rfl⟩
      rw [← hx0] at hok ⊢
      have HOK := Lib.hid hok
      have HX0 := Lib.hid hx0
      clear hok hx0 hV hE
      have HPB2 := Lib.hid (HPB1.out.setRow (#[.bool (bitB x0 0), .bool (bitB x0 1), .bool (bitB x0 2), .bool (bitB x0 3), .bool (bitB x0 4), .bool (bitB x0 5), .bool (bitB x0 6), .bool (bitB x0 7), .int .i64 ((x0 : Int) / 256 % 4), .int .u64 ((x0 : Int) / 1024 % 17592186044416)]))
      have hp2 : ∀ W', Ext (w1.setRow pb (#[.bool (bitB x0 0), .bool (bitB x0 1), .bool (bitB x0 2), .bool (bitB x0 3), .bool (bitB x0 4), .bool (bitB x0 5), .bool (bitB x0 6), .bool (bitB x0 7), .int .i64 ((x0 : Int) / 256 % 4), .int .u64 ((x0 : Int) / 1024 % 17592186044416)])) W' → Blk W' pb 95 (#[.bool (bitB x0 0), .bool (bitB x0 1), .bool (bitB x0 2), .bool (bitB x0 3), .bool (bitB x0 4), .bool (bitB x0 5), .bool (bitB x0 6), .bool (bitB x0 7), .int .i64 ((x0 : Int) / 256 % 4), .int .u64 ((x0 : Int) / 1024 % 17592186044416)]) := fun W' h => HPB2.out.below h HPB2.out.lt
      go_wp2_with (first | ((with_reducible refine wl_store 95 (.tmp 9) (.tmp 41) rfl ?_ pb 95 _ #[.bool (bitB x0 0), .bool (bitB x0 1), .bool (bitB x0 2), .bool (bitB x0 3), .bool (bitB x0 4), .bool (bitB x0 5), .bool (bitB x0 6), .bool (bitB x0 7), .int .i64 ((x0 : Int) / 256 % 4), .int .u64 ((x0 : Int) / 1024 % 17592186044416)] ?_ ?_ HPB1.out ?_ ?_ ?_ ?_); exact rfl; exact rfl; exact rfl; exact rfl; exact pte_row; exact pte_one x0) | ((with_reducible refine wl_load 95 (.tmp 9) rfl ?_ pb 0 #[.bool (bitB x0 0), .bool (bitB x0 1), .bool (bitB x0 2), .bool (bitB x0 3), .bool (bitB x0 4), .bool (bitB x0 5), .bool (bitB x0 6), .bool (bitB x0 7), .int .i64 ((x0 : Int) / 256 % 4), .int .u64 ((x0 : Int) / 1024 % 17592186044416)] ?_ HPB2.out.range ?_ ?_); exact rfl; exact rfl; exact pte_row))
      refine (leafx_any x0 _).mono ?_
      rintro e w2 ⟨rfl, hb2⟩
      have HZ3 := Lib.hid ((HZ2.out _).below hb2 (HZ2.out _).lt)
      have HPB3 := Lib.hid (HPB2.out.below hb2 HPB2.out.lt)
      have HB3' := Lib.hid ((HB2.out _).trans (hb2.mono (HB2.out _).size))
      clear hb2 hp2
      have hc9 := HPB3.out.cell 9
      simp at hc9
      rcases Bool.eq_false_or_eq_true (leafX x0) with hlf | hlf
      · rw [hlf]
        go_wp2_with (first | ((with_reducible refine wl_load 95 (.tmp 9) rfl ?_ pb 0 #[.bool (bitB x0 0), .bool (bitB x0 1), .bool (bitB x0 2), .bool (bitB x0 3), .bool (bitB x0 4), .bool (bitB x0 5), .bool (bitB x0 6), .bool (bitB x0 7), .int .i64 ((x0 : Int) / 256 % 4), .int .u64 ((x0 : Int) / 1024 % 17592186044416)] ?_ HPB3.out.range ?_ ?_); exact rfl; exact rfl; exact pte_row))
        rw [ppn_x]
        refine (even_any (ppnX x0) l _ (Nat.lt_trans (ppnX_lt _) (by decide)) HL.out).mono ?_
        rintro e w3 ⟨rfl, rfl⟩
        rcases Bool.eq_false_or_eq_true (evenB (ppnX x0) l) with hev | hev
        · rw [hev]
          have HFE : Hid (fd = .leaf x0 l at_) := Lib.hid (by rw [HOK.out, if_pos hlf, if_pos hev])
          clear hlf hev
          go_wp2_with (first | ((with_reducible refine wl_load 95 (.tmp 9) rfl ?_ pb 0 #[.bool (bitB x0 0), .bool (bitB x0 1), .bool (bitB x0 2), .bool (bitB x0 3), .bool (bitB x0 4), .bool (bitB x0 5), .bool (bitB x0 6), .bool (bitB x0 7), .int .i64 ((x0 : Int) / 256 % 4), .int .u64 ((x0 : Int) / 1024 % 17592186044416)] ?_ HPB3.out.range ?_ ?_); exact rfl; exact rfl; exact pte_row) | ((with_reducible refine wl_store 97 (.tmp 6) (.tmp 60) rfl ?_ (W.heap.size + 1) 97 #[.bool false, .bool false, .bool false, .bool false, .bool false, .bool false, .bool false, .bool false, .int .i64 0, .int .u64 0, .int .i64 0, .int .u64 0] #[.bool (bitB x0 0), .bool (bitB x0 1), .bool (bitB x0 2), .bool (bitB x0 3), .bool (bitB x0 4), .bool (bitB x0 5), .bool (bitB x0 6), .bool (bitB x0 7), .int .i64 ((x0 : Int) / 256 % 4), .int .u64 ((x0 : Int) / 1024 % 17592186044416), .int .i64 (l : Int), .int .u64 (at_ : Int)] ?_ ?_ HZ3.out ?_ ?_ ?_ ?_); exact rfl; exact rfl; exact rfl; exact rfl; exact leaf_row; exact el_one x0 l at_))
          simp only [Exit.jump]
          refine bodyPost_ret (res_cell_slot (cs := #[.bool (bitB x0 0), .bool (bitB x0 1), .bool (bitB x0 2), .bool (bitB x0 3), .bool (bitB x0 4), .bool (bitB x0 5), .bool (bitB x0 6), .bool (bitB x0 7), .int .i64 ((x0 : Int) / 256 % 4), .int .u64 ((x0 : Int) / 1024 % 17592186044416), .int .i64 (l : Int), .int .u64 (at_ : Int)]) (v := .int .i64 0) rfl _ _ (W.heap.size + 1) 97 rfl rfl (HZ3.out.setRow _) leaf_row) rfl ⟨?_, below_setRow HB3'.out (Nat.le_succ _) _⟩
          rw [HFE.out]
          rfl
        · rw [hev]
          have HFE : Hid (fd = .err 51) := Lib.hid (by rw [HOK.out, if_pos hlf, if_neg (by rw [hev]; decide)])
          go_wp2_with (first | ((with_reducible refine wl_load 95 (.tmp 9) rfl ?_ pb 0 #[.bool (bitB x0 0), .bool (bitB x0 1), .bool (bitB x0 2), .bool (bitB x0 3), .bool (bitB x0 4), .bool (bitB x0 5), .bool (bitB x0 6), .bool (bitB x0 7), .int .i64 ((x0 : Int) / 256 % 4), .int .u64 ((x0 : Int) / 1024 % 17592186044416)] ?_ HPB3.out.range ?_ ?_); exact rfl; exact rfl; exact pte_row))
          refine (leafx_any x0 _).mono ?_
          rintro e w4 ⟨rfl, hb4⟩
          rw [hlf]
          have HZ4 := Lib.hid (HZ3.out.below hb4 HZ3.out.lt)
          have HB4 := Lib.hid (HB3'.out.trans (hb4.mono HB3'.out.size))
          clear hb4 hc9 hlf hev
          go_wp2_with (first | ((with_reducible refine wl_store 97 (.tmp 6) (.tmp 70) rfl ?_ (W.heap.size + 1) 97 #[.bool false, .bool false, .bool false, .bool false, .bool false, .bool false, .bool false, .bool false, .int .i64 0, .int .u64 0, .int .i64 0, .int .u64 0] #[.bool false, .bool false, .bool false, .bool false, .bool false, .bool false, .bool false, .bool false, .int .i64 0, .int .u64 0, .int .i64 0, .int .u64 0] ?_ ?_ HZ4.out ?_ ?_ ?_ ?_); exact rfl; exact rfl; exact rfl; exact rfl; exact leaf_row; exact lzer_one))
          simp only [Exit.jump]
          refine bodyPost_ret (res_cell_slot (cs := #[.bool false, .bool false, .bool false, .bool false, .bool false, .bool false, .bool false, .bool false, .int .i64 0, .int .u64 0, .int .i64 0, .int .u64 0]) (v := .int .i64 51) rfl _ _ (W.heap.size + 1) 97 rfl rfl (HZ4.out.setRow _) leaf_row) rfl ⟨?_, below_setRow HB4.out (Nat.le_succ _) _⟩
          rw [HFE.out]
          rfl
      · rw [hlf]
        go_wp2_with (first | ((with_reducible refine wl_load 95 (.tmp 9) rfl ?_ pb 0 #[.bool (bitB x0 0), .bool (bitB x0 1), .bool (bitB x0 2), .bool (bitB x0 3), .bool (bitB x0 4), .bool (bitB x0 5), .bool (bitB x0 6), .bool (bitB x0 7), .int .i64 ((x0 : Int) / 256 % 4), .int .u64 ((x0 : Int) / 1024 % 17592186044416)] ?_ HPB3.out.range ?_ ?_); exact rfl; exact rfl; exact pte_row))
        refine (leafx_any x0 _).mono ?_
        rintro e w4 ⟨rfl, hb4⟩
        rw [hlf]
        have HZ4 := Lib.hid (HZ3.out.below hb4 HZ3.out.lt)
        have HPB4 := Lib.hid (HPB3.out.below hb4 HPB3.out.lt)
        have HB4 := Lib.hid (HB3'.out.trans (hb4.mono HB3'.out.size))
        clear hb4 hc9
        go_wp2_with (first | ((with_reducible refine wl_load 95 (.tmp 9) rfl ?_ pb 0 #[.bool (bitB x0 0), .bool (bitB x0 1), .bool (bitB x0 2), .bool (bitB x0 3), .bool (bitB x0 4), .bool (bitB x0 5), .bool (bitB x0 6), .bool (bitB x0 7), .int .i64 ((x0 : Int) / 256 % 4), .int .u64 ((x0 : Int) / 1024 % 17592186044416)] ?_ HPB4.out.range ?_ ?_); exact rfl; exact rfl; exact pte_row))
        refine (leadsx_any x0 l HL.out _).mono ?_
        rintro e w5 ⟨rfl, hb5⟩
        have HZ5 := Lib.hid (HZ4.out.below hb5 HZ4.out.lt)
        have HPB5 := Lib.hid (HPB4.out.below hb5 HPB4.out.lt)
        have HB5 := Lib.hid (HB4.out.trans (hb5.mono HB4.out.size))
        clear hb5
        rcases Bool.eq_false_or_eq_true (leadX x0 l) with hld | hld
        · rw [hld]
          have HFE : Hid (fd = nextF n S va t l) := Lib.hid (by rw [HOK.out, if_neg (by rw [hlf]; decide), if_pos hld])
          have hs : ∀ W', Ext w5.drew W' → W'.cell? ⟨pb, 9, none⟩ = some (.int .u64 ((x0 : Int) / 1024 % 17592186044416)) := fun W' h => (h.cell HPB5.out.drew.lt).trans (HPB5.out.cell 9)
          obtain ⟨m, rfl⟩ : ∃ m, l = m + 1 := lead_pos hld
          have HWR : Hid (IntKind.i64.wrap (m : Int) = (m : Int)) := Lib.hid (IntWalk.i64_in _ (by have := HL.out; omega))
          clear hlf hld
          go_wp2_with fail
          refine wp_region_plan [(0, false), (1, false), (2, false), (3, false), (4, false), (5, false)] (by kernel_rfl) (by kernel_rfl) (fun _ d _ _ _ h => by cases d <;> exact h) ?_
          iterate 6 (refine plan_take (v := ?_) rfl (by kernel_rfl) ?_ ?_; rotate_left; (focus (intro w' hw'; try go_simp; try with_reducible rfl)); simp only [Act.put, List.setIfInBounds_toArray, List.set_cons_zero, List.set_cons_succ])
          refine plan_end ?_
          go_wp2_with fail
          go_step3
          rw [ppn_x, HWR.out]
          refine ⟨rfl, ⟨m, ppnX x0, pb, fun i => ((#[.bool (bitB x0 0), .bool (bitB x0 1), .bool (bitB x0 2), .bool (bitB x0 3), .bool (bitB x0 4), .bool (bitB x0 5), .bool (bitB x0 6), .bool (bitB x0 7), .int .i64 ((x0 : Int) / 256 % 4), .int .u64 ((x0 : Int) / 1024 % 17592186044416)]) : Array Value).getD i undef, fr_intro _ rfl, by have := HL.out; omega, Nat.lt_trans (ppnX_lt _) (by decide), ?_, HZ5.out.drew, HPB5.out.drew, HNE.out, HB5.out.drew⟩, ?_⟩
          rw [HFE.out, HX0.out, ← HAX.out]
          rfl
          simp [intOf]
        · rw [hld]
          have HFE : Hid (fd = .err 51) := Lib.hid (by rw [HOK.out, if_neg (by rw [hlf]; decide), if_neg (by rw [hld]; decide)])
          clear hlf hld
          go_wp2_with (first | ((with_reducible refine wl_store 97 (.tmp 6) (.tmp 70) rfl ?_ (W.heap.size + 1) 97 #[.bool false, .bool false, .bool false, .bool false, .bool false, .bool false, .bool false, .bool false, .int .i64 0, .int .u64 0, .int .i64 0, .int .u64 0] #[.bool false, .bool false, .bool false, .bool false, .bool false, .bool false, .bool false, .bool false, .int .i64 0, .int .u64 0, .int .i64 0, .int .u64 0] ?_ ?_ HZ5.out ?_ ?_ ?_ ?_); exact rfl; exact rfl; exact rfl; exact rfl; exact leaf_row; exact lzer_one))
          simp only [Exit.jump]
          refine bodyPost_ret (res_cell_slot (cs := #[.bool false, .bool false, .bool false, .bool false, .bool false, .bool false, .bool false, .bool false, .int .i64 0, .int .u64 0, .int .i64 0, .int .u64 0]) (v := .int .i64 51) rfl _ _ (W.heap.size + 1) 97 rfl rfl (HZ5.out.setRow _) leaf_row) rfl ⟨?_, below_setRow HB5.out (Nat.le_succ _) _⟩
          rw [HFE.out]
          rfl
    · have hV : entV n S at_ = pteZ := if_neg hE
      rw [hV]
      have HFE : Hid (fd = .err (entE n S at_)) := Lib.hid (by rw [HEQ.out, ← HAX.out]; exact fdAt_err (by rw [HAX.out]; exact hE))
      have hne : (entE n S at_ != 0) = true := by simpa using hE
      clear hV hE
      generalize entE n S at_ = E at *
      go_wp2_with (first | ((with_reducible refine wl_store 95 (.tmp 9) (.tmp 41) rfl ?_ pb 95 _ #[.bool false, .bool false, .bool false, .bool false, .bool false, .bool false, .bool false, .bool false, .int .i64 0, .int .u64 0] ?_ ?_ HPB1.out ?_ ?_ ?_ ?_); exact rfl; exact rfl; exact rfl; exact rfl; exact pte_row; exact zer_one) | ((with_reducible refine wl_store 97 (.tmp 6) (.tmp 46) rfl ?_ (W.heap.size + 1) 97 #[.bool false, .bool false, .bool false, .bool false, .bool false, .bool false, .bool false, .bool false, .int .i64 0, .int .u64 0, .int .i64 0, .int .u64 0] #[.bool false, .bool false, .bool false, .bool false, .bool false, .bool false, .bool false, .bool false, .int .i64 0, .int .u64 0, .int .i64 0, .int .u64 0] ?_ ?_ (HZ2.out _) ?_ ?_ ?_ ?_); exact rfl; exact rfl; exact rfl; exact rfl; exact leaf_row; exact lzer_one))
      simp only [Exit.jump]
      refine bodyPost_ret (res_cell_slot (cs := #[.bool false, .bool false, .bool false, .bool false, .bool false, .bool false, .bool false, .bool false, .int .i64 0, .int .u64 0, .int .i64 0, .int .u64 0]) (v := .int .i64 E) rfl _ _ (W.heap.size + 1) 97 rfl rfl ((HZ2.out _).setRow _) leaf_row) rfl ⟨?_, below_setRow (HB2.out _) (Nat.le_succ _) _⟩
      rw [HFE.out]
      rfl
end Go.Proofs.Ytecalibnnfcaeaa

/- Find: all; Place. -/
namespace Go.Proofs.Ytecalibnnfcaeaa
open Go.RowKit

def leafZ : Value := .agg #[.bool false, .bool false, .bool false, .bool false, .bool false, .bool false, .bool false, .bool false, .int .i64 0, .int .u64 0, .int .i64 0, .int .u64 0]
theorem find_off (p : Option Addr) (va : Nat) (asid ppn : Int) (W : World) (hp : p ≠ none) :
    Calls Try.prog 74 #[.pointer p, .agg #[.bool false, .int .i64 asid, .int .u64 ppn], .int .u64 (va : Int)] W fun e w' => e = .returned (.tuple #[leafZ, .int .i64 2]) ∧ Below W.heap.size W w' := by
  obtain ⟨p, rfl⟩ := Option.ne_none_iff_exists'.1 hp
  clear hp
  go_enter Try.func74, Try.ntmps74
  go_wp2_with fail
  go_step3
  go_wp2_with fail
  simp only [Exit.noGoto]
  refine bodyPost_ret (v := .tuple #[leafZ, .int .i64 2]) (by simp [leafZ, results, Try.results74, go_sem]) rfl ⟨rfl, by go_grown⟩
theorem find_nil (va : Nat) (on : Bool) (asid ppn : Int) (W : World) :
    Calls Try.prog 74 #[.pointer none, .agg #[.bool on, .int .i64 asid, .int .u64 ppn], .int .u64 (va : Int)] W fun e w' => e = .returned (.tuple #[leafZ, .int .i64 1]) ∧ Below W.heap.size W w' := by
  go_enter Try.func74, Try.ntmps74
  go_wp2_with fail
  go_step3
  go_wp2_with fail
  simp only [Exit.noGoto]
  refine bodyPost_ret (v := .tuple #[leafZ, .int .i64 1]) (by simp [leafZ, results, Try.results74, go_sem]) rfl ⟨rfl, by go_grown⟩
theorem find_non (p : Option Addr) (va : Nat) (asid ppn : Int) (W : World) (hp : p ≠ none) (hv : va < 18446744073709551616) (hc : canonB va = false) :
    Calls Try.prog 74 #[.pointer p, .agg #[.bool true, .int .i64 asid, .int .u64 ppn], .int .u64 (va : Int)] W fun e w' => e = .returned (.tuple #[leafZ, .int .i64 51]) ∧ Below W.heap.size W w' := by
  obtain ⟨p, rfl⟩ := Option.ne_none_iff_exists'.1 hp
  clear hp
  have HV := Lib.hid hv
  have HC := Lib.hid hc
  clear hv hc
  go_enter Try.func74, Try.ntmps74
  go_wp2_with fail
  go_step3
  go_wp2_with fail
  refine (canon_any va _ HV.out).mono ?_
  rintro e w' ⟨rfl, rfl⟩
  rw [HC.out]
  go_wp2_with fail
  simp only [Exit.noGoto]
  refine bodyPost_ret (v := .tuple #[leafZ, .int .i64 51]) (by simp [leafZ, results, Try.results74, go_sem]) rfl ⟨rfl, by go_grown⟩
/-- What Find says, of any satp and any address. -/
theorem Find_any (g n va ppn : Nat) (asid : Int) (on : Bool) (F : Nat → Prop) (S : Nat → List Nat) (W : World) (h : Mem W g F n S) (hv : va < 18446744073709551616) (hp : ppn < 18446744073709551616) :
    Calls Try.prog 74 #[.pointer (some ⟨g, 0, none⟩), .agg #[.bool on, .int .i64 asid, .int .u64 (ppn : Int)], .int .u64 (va : Int)] W fun e w' =>
      e = .returned (.tuple #[fdV (findW n S on ppn va), .int .i64 (fdE (findW n S on ppn va))]) ∧ Below W.heap.size W w' := by
  unfold findW
  cases on with
  | false => exact find_off _ va asid ppn W (by simp)
  | true =>
    cases hc : canonB va with
    | false => exact find_non _ va asid ppn W (by simp) hv hc
    | true => exact find_any g n va ppn asid true F S W h hv hp rfl hc
theorem place_leaf (x l a va : Nat) (W : World) (hv : va < 18446744073709551616) :
    Calls Try.prog 57 #[fdV (.leaf x l a), .int .u64 (va : Int)] W fun e w' => e = .returned (.int .u64 ((joinV (ppnX x) va (l : Int) : Nat) : Int)) ∧ Below W.heap.size W w' := by
  have HV := Lib.hid hv
  clear hv
  unfold fdV
  go_enter Try.func57, Try.ntmps57
  go_wp2_with fail
  rw [ppn_x]
  refine (join_any (ppnX x) va (l : Int) _ (Nat.lt_trans (ppnX_lt _) (by decide)) HV.out).mono ?_
  rintro e w' ⟨rfl, rfl⟩
  go_wp2_with fail
  go_ret
  exact ⟨rfl, by go_grown⟩
end Go.Proofs.Ytecalibnnfcaeaa

/- The memory as an object; its calls. -/
namespace Go.Proofs.Ytecalibnnfcaeaa
open Go.RowKit

theorem Mem.fits {w : World} {g n : Nat} {F : Nat → Prop} {S : Nat → List Nat} (h : Mem w g F n S) : ∃ F', Mem w g F' n S ∧ (∀ b, F' b → F b) ∧ ∀ b, F' b → b < w.heap.size := by
  obtain ⟨mb, loc, K, h1, h2⟩ := h
  exact ⟨memF g mb loc K, ⟨mb, loc, K, h1, fun _ h => h⟩, h2, fun b hb => h1.flt b hb⟩
/-- A memory of n frames that holds the pages S. -/
def memO (g n : Nat) (S : Nat → List Nat) : Obj where
  At w F := Mem w g F n S ∧ ∀ b, F b → b < w.heap.size
  keeps := fun h k hd => ⟨h.1.keeps k hd, fun b hb => Nat.lt_of_lt_of_le (h.2 b hb) k.size⟩
  lt := fun h hb => h.2 _ hb
section
variable {W w : World} {os : List Obj} {g n : Nat} {S : Nat → List Nat}
theorem Objs.memStore (h : Objs W os w) (i : Nat) (hi : os[i]? = some (memO g n S)) (at_ : Nat) (s : Int) (v : Nat) (ha : at_ < 18446744073709551616) (hv : v < 18446744073709551616) :
    Calls Try.prog 20 #[.pointer (some ⟨g, 0, none⟩), .int .u64 (at_ : Int), .int .i64 s, .int .u64 (v : Int)] w fun e w' => e = .returned (.int .i64 (chkE n at_ s)) ∧ Objs W (os.set i (memO g n (stR n S at_ s v))) w' ∧ Below W.heap.size w w' := by
  have t := h.turn (P := Try.prog) (f := 20) (args := #[.pointer (some ⟨g, 0, none⟩), .int .u64 (at_ : Int), .int .i64 s, .int .u64 (v : Int)]) (R := fun e => e = .returned (.int .i64 (chkE n at_ s))) i (memO g n S) (memO g n (stR n S at_ s v)) hi (fun F hF => by
    refine (Store_any g n at_ s v F S w hF.1 ha hv).mono ?_
    rintro e w' ⟨rfl, F', h1, h2, h3⟩
    refine ⟨rfl, ?_⟩
    obtain ⟨F2, k1, k2, k3⟩ := h1.fits
    exact ⟨F2, ⟨k1, k3⟩, fun b hb => h2 b (k2 b hb), h3⟩)
  exact t
theorem Objs.memLoad (h : Objs W os w) (i : Nat) (hi : os[i]? = some (memO g n S)) (at_ : Nat) (s : Int) (ha : at_ < 18446744073709551616) :
    Calls Try.prog 32 #[.pointer (some ⟨g, 0, none⟩), .int .u64 (at_ : Int), .int .i64 s] w fun e w' => e = .returned (.tuple #[.int .u64 (ldR n S at_ s : Nat), .int .i64 (chkE n at_ s)]) ∧ w = w' := by
  obtain ⟨F, hF⟩ := h.get i _ hi
  exact Load_any g n at_ s F S w hF.1 ha
theorem Objs.memFrames (h : Objs W os w) (i : Nat) (hi : os[i]? = some (memO g n S)) :
    Calls Try.prog 58 #[.pointer (some ⟨g, 0, none⟩)] w fun e w' => e = .returned (.int .i64 (n : Int)) ∧ w = w' := by
  obtain ⟨F, hF⟩ := h.get i _ hi
  exact frames_any g F n S w hF.1
theorem Objs.memFind (h : Objs W os w) (i : Nat) (hi : os[i]? = some (memO g n S)) (va ppn : Nat) (asid : Int) (on : Bool) (hv : va < 18446744073709551616) (hp : ppn < 18446744073709551616) :
    Calls Try.prog 74 #[.pointer (some ⟨g, 0, none⟩), .agg #[.bool on, .int .i64 asid, .int .u64 (ppn : Int)], .int .u64 (va : Int)] w fun e w' =>
      e = .returned (.tuple #[fdV (findW n S on ppn va), .int .i64 (fdE (findW n S on ppn va))]) ∧ Objs W os w' ∧ Ext w w' := by
  obtain ⟨F, hF⟩ := h.get i _ hi
  refine (Find_any g n va ppn asid on F S w hF.1 hv hp).mono ?_
  rintro e w' ⟨rfl, hb⟩
  exact ⟨rfl, h.step hb, hb⟩
end
end Go.Proofs.Ytecalibnnfcaeaa

/- Laid: both memories, with words. -/
namespace Go.Proofs.Ytecalibnnfcaeaa
open Go.RowKit

/-- The words of a slice. -/
def WdAt (W : World) (A : Option Addr) (ws : List (Nat × Nat)) : Prop := ws ≠ [] → ∃ b o, A = some ⟨b, o, none⟩ ∧ b < W.heap.size ∧ ∀ k x, ws[k]? = some x →
  W.cell? ⟨b, o + k * 2, none⟩ = some (.int .u64 (x.1 : Int)) ∧ W.cell? ⟨b, o + k * 2 + 1, none⟩ = some (.int .u64 (x.2 : Int)) ∧ x.1 < 18446744073709551616 ∧ x.2 < 18446744073709551616
def layS (n : Nat) (S : Nat → List Nat) (x : Nat × Nat) : Nat → List Nat := stR n S x.1 8 x.2
def laidS (n : Nat) (ws : List (Nat × Nat)) : Nat → List Nat := ws.foldl (layS n) emptyS
theorem laidS_snoc (n : Nat) (ws : List (Nat × Nat)) (k : Nat) (x : Nat × Nat) (h : ws[k]? = some x) : laidS n (ws.take (k + 1)) = stR n (laidS n (ws.take k)) x.1 8 x.2 := by
  unfold laidS
  rw [List.take_add_one, h, List.foldl_append]
  rfl
theorem play_start {W w1 : World} {g n : Nat} (h : Mem w1 g (fun b => W.heap.size ≤ b) n emptyS) (hb : Below W.heap.size W w1) : Play W (fun _ => False) g w1.heap.size n [] emptyS (w1.alloc (.cells #[.int .i64 (n : Int), .slice none 0 0] 81)) := by
  have ha : Below w1.heap.size w1 (w1.alloc (.cells #[.int .i64 (n : Int), .slice none 0 0] 81)) := (Below.refl _ _).alloc (Nat.le_refl _) _
  refine ⟨fun b => W.heap.size ≤ b ∧ b < w1.heap.size, fun b => b = w1.heap.size, h.tight.below ha, ⟨none, 0, Blkf.new_at _ _ _ _ rfl, fun h => by simp at h, rfl, fun g hg => by subst hg; simp⟩, fun b hb' => ⟨hb'.1, by simp; omega⟩, fun b hb' => by subst hb'; exact hb.size, fun b h1 h2 => by omega, fun b h => h.elim, hb.alloc hb.size _⟩
set_option maxHeartbeats 1000000 in
theorem laid_any (n : Nat) (A : Option Addr) (len cap : Nat) (ws : List (Nat × Nat)) (W : World) (h1 : 1 ≤ n) (h2 : n ≤ 200) (hl : len = ws.length) (hw : WdAt W A ws) (hm : len ≤ 9223372036854775807) :
    Calls Try.prog 5 #[.int .i64 (n : Int), .slice A len cap] W fun e w' =>
      ∃ g xb L, e = .returned (.tuple #[.pointer (some ⟨g, 0, none⟩), .pointer (some ⟨xb, 0, none⟩)]) ∧ Play W (fun _ => False) g xb n L (laidS n (ws.take 60)) w' ∧ Rel n L (laidS n (ws.take 60)) := by
  have HW := Lib.hid hw
  have HN : Hid (1 ≤ n ∧ n ≤ 200) := Lib.hid ⟨h1, h2⟩
  have HL := Lib.hid hl
  clear hw h1 h2 hl
  go_enter Try.func5, Try.ntmps5
  go_wp2_with fail
  refine (new_yes n _ HN.out.1 (by have := HN.out.2; omega)).mono ?_
  rintro e w1 ⟨g, rfl, hm1, hb⟩
  have HP0 := Lib.hid (play_start (W := W) hm1 hb)
  clear hm1 hb
  go_wp2_with fail
  generalize w1.alloc (.cells #[.int .i64 (n : Int), .slice none 0 0] 81) = W1 at *
  generalize w1.heap.size = xb at *
  go_wp2_with fail
  go_loopw [21] (fun i wr => ∃ k : Nat, k ≤ len ∧ k ≤ 60 ∧ i = .int .i64 k ∧ ∃ L, Play W (fun _ => False) g xb n L (laidS n (ws.take k)) wr ∧ Rel n L (laidS n (ws.take k))) (fun i _ => len - (intOf i).toNat)
  case atStart => exact ⟨0, by omega, by omega, rfl, [], HP0.out, Rel.empty n⟩
  case round =>
    obtain ⟨k, hk, hk60, rfl, L, hp, hr⟩ := hrel
    have HP := Lib.hid hp
    have HR := Lib.hid hr
    clear hp hr
    by_cases hkl : k < len
    · obtain ⟨b, o, rfl, hbl, hc⟩ := HW.out (by rintro rfl; have := HL.out; simp at this; omega)
      obtain ⟨⟨at_, v⟩, hx⟩ : ∃ x, ws[k]? = some x := ⟨_, List.getElem?_eq_getElem (by rw [← HL.out]; exact hkl)⟩
      obtain ⟨q0, q1, ha, hv⟩ := hc k _ hx
      have hbel := HP.out.bel
      have c0 := (hbel.cell (p := ⟨b, o + k * 2, none⟩) hbl).trans q0
      have c1 := (hbel.cell (p := ⟨b, o + k * 2 + 1, none⟩) hbl).trans q1
      have HHA := Lib.hid ha
      have HHV := Lib.hid hv
      have HX := Lib.hid hx
      clear hbel q0 q1 ha hv hx hc
      simp only at c0 c1 HHA HHV
      by_cases h60 : 60 ≤ k
      · have i60 : (60 : Int) ≤ (k : Int) := by omega
        go_wp2_with fail
        go_ret2
        obtain rfl : k = 60 := by omega
        exact ⟨g, xb, L, rfl, HP.out.below ((Below.refl _ _).alloc (Nat.le_refl _) _), HR.out⟩
      · have i60 : ¬ (60 : Int) ≤ (k : Int) := by omega
        have hal : Below wr.heap.size wr (wr.alloc (.cells #[.int .u64 (at_ : Int), .int .u64 (v : Int)] 75)) := (Below.refl _ _).alloc (Nat.le_refl _) _
        have HPO := Lib.hid ((HP.out.add (b := wr.heap.size) hal (Nat.le_refl _) (by simp)).only (Q := fun c => c = wr.heap.size) (fun b hb => .inr hb))
        have HOB : Hid (Blk (wr.alloc (.cells #[.int .u64 (at_ : Int), .int .u64 (v : Int)] 75)) wr.heap.size 75 #[.int .u64 (at_ : Int), .int .u64 (v : Int)]) := Lib.hid (Blkf.new_at _ _ _ _ rfl)
        clear hal
        go_wp2_with fail
        generalize wr.alloc (.cells #[.int .u64 (at_ : Int), .int .u64 (v : Int)] 75) = w2 at *
        generalize wr.heap.size = ob at *
        refine (p_store HPO.out at_ v 8 HHA.out HHV.out).mono ?_
        rintro e w3 ⟨rfl, hp3, hs3⟩
        have HP3 := Lib.hid hp3
        have HOB3 : Hid (Blk w3 ob 75 #[.int .u64 (at_ : Int), .int .u64 (v : Int)]) := Lib.hid ((hs3 ob rfl).trans HOB.out)
        clear hp3 hs3 c0 c1
        have d0 := HOB3.out.cell 0
        have d1 := HOB3.out.cell 1
        simp at d0 d1
        go_wp2_with fail
        refine (p_rstore HP3.out at_ v 8 (by have := HN.out; omega) HHA.out HHV.out (by have := HR.out.short; have := HN.out; omega)).mono ?_
        rintro e w4 ⟨rfl, hp4, hs4⟩
        have HP4 := Lib.hid (hp4.only (Q := fun _ => False) (fun _ h => h.elim))
        have HS := Lib.hid (HR.out.store at_ 8 v)
        have HE := Lib.hid (laidS_snoc n ws k _ HX.out)
        clear hp4 hs4 d0 d1
        go_wp2_with fail
        refine ⟨⟨k + 1, by omega, by omega, by go_num, stE n L at_ 8 v, ?_, ?_⟩, by simp [intOf]; omega⟩
        · rw [HE.out]; exact HP4.out
        · rw [HE.out]; exact HS.out
    · obtain rfl : len = k := by omega
      go_wp2_with fail
      go_ret2
      have e : ws.take 60 = ws.take len := by rw [List.take_of_length_le (by rw [← HL.out]; exact hk60), List.take_of_length_le (by rw [← HL.out]; exact Nat.le_refl _)]
      rw [e]
      exact ⟨g, xb, L, rfl, HP.out, HR.out⟩
end Go.Proofs.Ytecalibnnfcaeaa

/- Leaves as structs of twelve cells. -/
namespace Go.Proofs.Ytecalibnnfcaeaa
open Go.RowKit Go.ChangeShapes

structure Lf where
  (v r w x u g a d : Bool)
  (rsw ppn lev pos : Int)
def Lf.vs (l : Lf) : List Value := [.bool l.v, .bool l.r, .bool l.w, .bool l.x, .bool l.u, .bool l.g, .bool l.a, .bool l.d, .int .i64 l.rsw, .int .u64 l.ppn, .int .i64 l.lev, .int .u64 l.pos]
def Lf.val (l : Lf) : Value := .agg #[.bool l.v, .bool l.r, .bool l.w, .bool l.x, .bool l.u, .bool l.g, .bool l.a, .bool l.d, .int .i64 l.rsw, .int .u64 l.ppn, .int .i64 l.lev, .int .u64 l.pos]
def lf0 : Lf := ⟨false, false, false, false, false, false, false, false, 0, 0, 0, 0⟩
def LfWf (l : Lf) : Prop := (Lit.int .i64 l.rsw).wf = true ∧ (Lit.int .u64 l.ppn).wf = true ∧ (Lit.int .i64 l.lev).wf = true ∧ (Lit.int .u64 l.pos).wf = true
def Lf.cs (l : Lf) : Array Value := #[.bool l.v, .bool l.r, .bool l.w, .bool l.x, .bool l.u, .bool l.g, .bool l.a, .bool l.d, .int .i64 l.rsw, .int .u64 l.ppn, .int .i64 l.lev, .int .u64 l.pos]
theorem lcs_size (l : Lf) : l.cs.size = 12 := rfl
theorem lcs_toList (l : Lf) : l.cs.toList = l.vs := rfl
theorem lval_cs (l : Lf) : l.val = .agg l.cs := rfl
theorem one_lf (x : Lf) : ∀ u ∈ x.vs, u.oneCell' = true := by
  intro u hu
  simp [Lf.vs] at hu
  rcases hu with rfl | rfl | rfl | rfl | rfl | rfl | rfl | rfl | rfl | rfl | rfl | rfl <;> rfl
theorem lcs_one (l : Lf) : l.cs.all (·.oneCell') = true := Array.all_eq_true_iff_forall_mem.2 fun u hu => one_lf l u (by rw [← lcs_toList]; simpa using hu)
theorem lrow (l : Lf) : rowT Try.prog 97 l.cs.size = true := by rw [lcs_size]; kernel_rfl
def Lf.lits (l : Lf) : List Lit := [.bool l.v, .bool l.r, .bool l.w, .bool l.x, .bool l.u, .bool l.g, .bool l.a, .bool l.d, .int .i64 l.rsw, .int .u64 l.ppn, .int .i64 l.lev, .int .u64 l.pos]
theorem lits_inj (a b : Lf) : a.lits = b.lits ↔ a = b := by
  constructor
  · intro h
    cases a; cases b
    simp only [Lf.lits, List.cons.injEq, Lit.bool.injEq, Lit.int.injEq, true_and, and_true] at h
    obtain ⟨h1, h2, h3, h4, h5, h6, h7, h8, h9, h10, h11, h12⟩ := h
    simp only [Lf.mk.injEq]
    exact ⟨h1, h2, h3, h4, h5, h6, h7, h8, h9, by omega, h11, by omega⟩
  · rintro rfl; rfl
theorem key_int (d : Nat) (n : Int) (h : (Lit.int .i64 n).wf = true) : Try.prog.keyLits (d + 1) 3 [.int .i64 n] = some [.int .i64 n] := by
  unfold Program.keyLits
  simp [Try.underlying3, h]
theorem key_u64 (d : Nat) (n : Int) (h : (Lit.int .u64 n).wf = true) : Try.prog.keyLits (d + 1) 41 [.int .u64 n] = some [.int .u64 n] := by
  unfold Program.keyLits
  simp [Try.underlying41, h]
theorem key_bool (d : Nat) (b : Bool) : Try.prog.keyLits (d + 1) 4 [.bool b] = some [.bool b] := by
  unfold Program.keyLits
  simp [Try.underlying4]
theorem c_int : Try.prog.cellsOf 3 = 1 := by kernel_rfl
theorem c_u64 : Try.prog.cellsOf 41 = 1 := by kernel_rfl
theorem c_bool : Try.prog.cellsOf 4 = 1 := by kernel_rfl
theorem c_pte : Try.prog.cellsOf 95 = 10 := by kernel_rfl
theorem c_leaf : Try.prog.cellsOf 97 = 12 := by kernel_rfl
theorem key_pte (d : Nat) (l : Lf) (h : LfWf l) : Try.prog.keyLits (d + 2) 95 [.bool l.v, .bool l.r, .bool l.w, .bool l.x, .bool l.u, .bool l.g, .bool l.a, .bool l.d, .int .i64 l.rsw, .int .u64 l.ppn] = some [.bool l.v, .bool l.r, .bool l.w, .bool l.x, .bool l.u, .bool l.g, .bool l.a, .bool l.d, .int .i64 l.rsw, .int .u64 l.ppn] := by
  obtain ⟨h1, h2, h3, h4⟩ := h
  unfold Program.keyLits
  simp [Try.underlying95, c_pte, c_int, c_u64, c_bool, key_int, key_u64, key_bool, h1, h2]
theorem key_leaf (d : Nat) (l : Lf) (h : LfWf l) : Try.prog.keyLits (d + 3) 97 l.vs = some l.lits := by
  have hp := key_pte d l h
  obtain ⟨h1, h2, h3, h4⟩ := h
  unfold Program.keyLits Lf.vs Lf.lits
  simp [Try.underlying97, c_leaf, c_pte, c_int, c_u64, key_int, key_u64, hp, h3, h4]
theorem leaf_eq (W : World) (a b : Lf) (ha : LfWf a) (hb : LfWf b) : ∃ r : Bool, (Op.equalIn 10000 97 (.agg a.cs) (.agg b.cs)).run Try.prog W = .ok r W ∧ (r = true ↔ a = b) := by
  have h := run_equalIn_deep (P := Try.prog) 9995 5 97 (by kernel_rfl)
  obtain ⟨r, hr, hi⟩ := h W 5 5 _ _ _ _ (by kernel_rfl : (Value.agg a.cs).formed Try.prog 97 = true) (by kernel_rfl : (Value.agg b.cs).formed Try.prog 97 = true) (key_leaf 2 a ha) (key_leaf 2 b hb)
  exact ⟨r, hr, hi.trans (lits_inj a b)⟩
theorem leaf_same (W : World) (a : Lf) (ha : LfWf a) : (Op.equalIn 10000 97 (.agg a.cs) (.agg a.cs)).run Try.prog W = .ok true W := by
  obtain ⟨r, hr, hi⟩ := leaf_eq W a a ha ha
  rw [hi.2 rfl] at hr
  exact hr
def fdL : Fd → Lf
  | .err _ => lf0
  | .leaf x l a => ⟨bitB x 0, bitB x 1, bitB x 2, bitB x 3, bitB x 4, bitB x 5, bitB x 6, bitB x 7, (x : Int) / 256 % 4, (x : Int) / 1024 % 17592186044416, (l : Int), (a : Int)⟩
theorem fdV_cs (fd : Fd) : fdV fd = .agg (fdL fd).cs := by cases fd <;> rfl
theorem leafZ_cs : leafZ = .agg lf0.cs := rfl
theorem lf0_wf : LfWf lf0 := by unfold LfWf; decide
theorem wf64 {n : Int} (h : 0 ≤ n) (h2 : n < 9223372036854775808) : (Lit.int .i64 n).wf = true := by simp [Lit.wf, IntKind.min, IntKind.max, IntKind.signed, IntKind.bits]; omega
theorem wfu {n : Int} (h : 0 ≤ n) (h2 : n < 18446744073709551616) : (Lit.int .u64 n).wf = true := by simp [Lit.wf, IntKind.min, IntKind.max, IntKind.signed, IntKind.bits]; omega
theorem fdL_wf {x l a : Nat} (hl : l ≤ 2) (ha : a < 18446744073709551616) : LfWf (fdL (.leaf x l a)) :=
  ⟨wf64 (by simp only [fdL]; omega) (by simp only [fdL]; omega), wfu (by simp only [fdL]; omega) (by simp only [fdL]; omega), wf64 (by simp only [fdL]; omega) (by simp only [fdL]; omega), wfu (by simp only [fdL]; omega) (by simp only [fdL]; omega)⟩
theorem lcs_10 (l : Lf) : l.cs[10]? = some (.int .i64 l.lev) := rfl
theorem lcs_11 (l : Lf) : l.cs[11]? = some (.int .u64 l.pos) := rfl
end Go.Proofs.Ytecalibnnfcaeaa
