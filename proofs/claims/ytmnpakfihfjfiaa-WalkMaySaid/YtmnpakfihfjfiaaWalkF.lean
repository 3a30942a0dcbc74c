/- Find. -/
import Derived.Test.YtmnpakfihfjfiaaWalkP
namespace Go.Proofs.Ytmnpakfihfjfiaa
open Go.RowKit

def fdV : Fd → Value
  | .err _ => .agg #[.bool false, .bool false, .bool false, .bool false, .bool false, .bool false, .bool false, .bool false, .int .i64 0, .int .u64 0, .int .i64 0, .int .u64 0]
  | .leaf x l a => .agg #[.bool (bitB x 0), .bool (bitB x 1), .bool (bitB x 2), .bool (bitB x 3), .bool (bitB x 4), .bool (bitB x 5), .bool (bitB x 6), .bool (bitB x 7), .int .i64 ((x : Int) / 256 % 4), .int .u64 ((x : Int) / 1024 % 17592186044416), .int .i64 (l : Int), .int .u64 (a : Int)]
def fdE : Fd → Int
  | .err e => e
  | .leaf _ _ _ => 0
/-- What is found of an address. -/
def findW (n : Nat) (S : Nat → List Nat) (on : Bool) (ppn va : Nat) : Fd := if on then (if canonB va then findF n S va 2 ppn else .err 51) else .err 2
theorem leafx_any (x : Nat) (W : World) : Calls Try.prog 23 #[.agg #[.bool (bitB x 0), .bool (bitB x 1), .bool (bitB x 2), .bool (bitB x 3), .bool (bitB x 4), .bool (bitB x 5), .bool (bitB x 6), .bool (bitB x 7), .int .i64 ((x : Int) / 256 % 4), .int .u64 ((x : Int) / 1024 % 17592186044416)]] W fun e w' => e = .returned (.bool (leafX x)) ∧ Below W.heap.size W w' := leaf_any _ _ _ _ _ _ _ _ _ _ _
theorem leadsx_any (x l : Nat) (hl : l ≤ 2) (W : World) : Calls Try.prog 25 #[.agg #[.bool (bitB x 0), .bool (bitB x 1), .bool (bitB x 2), .bool (bitB x 3), .bool (bitB x 4), .bool (bitB x 5), .bool (bitB x 6), .bool (bitB x 7), .int .i64 ((x : Int) / 256 % 4), .int .u64 ((x : Int) / 1024 % 17592186044416)], .int .i64 (l : Int)] W fun e w' => e = .returned (.bool (leadX x l)) ∧ Below W.heap.size W w' := leads_any _ _ _ _ _ _ _ _ _ _ _ _ hl
theorem fr_intro {Φ : (Nat → Value) → Act} (a : Act) (h : a = Φ (fun i => a.tmps.getD i undef)) : ∃ x, a = Φ x := ⟨_, h⟩
theorem fdAt_err {n : Nat} {S : Nat → List Nat} {va l t : Nat} {k : Fd} (h : entE n S (atX va t l) ≠ 0) : fdAt n S va l t k = .err (entE n S (atX va t l)) := by
  unfold fdAt entE at *
  split
  · rename_i h1
    rw [if_pos h1] at h
    split
    · rename_i h2; rw [if_pos h2] at h; exact absurd rfl h
    · rename_i h2; rfl
  · rfl
theorem fdAt_ok {n : Nat} {S : Nat → List Nat} {va l t : Nat} {k : Fd} (h : entE n S (atX va t l) = 0) : fdAt n S va l t k =
    if leafX (ldR n S (atX va t l) 8) then (if evenB (ppnX (ldR n S (atX va t l) 8)) l then .leaf (ldR n S (atX va t l) 8) l (atX va t l) else .err 51)
      else if leadX (ldR n S (atX va t l) 8) l then k else .err 51 := by
  unfold entE at h
  unfold fdAt
  split at h
  · rename_i h1
    rw [if_pos h1]
    split at h
    · rename_i h2
      rw [if_pos h2]
    · cases h
  · cases h
def nextF (n : Nat) (S : Nat → List Nat) (va t : Nat) : Nat → Fd
  | 0 => .err 51
  | k + 1 => findF n S va k (ppnX (ldR n S (atX va t (k + 1)) 8))
theorem find_eq (n : Nat) (S : Nat → List Nat) (va l t : Nat) : findF n S va l t = fdAt n S va l t (nextF n S va t l) := by
  cases l <;> rfl
theorem ppn_x (x : Nat) : (x : Int) / 1024 % 17592186044416 = ((ppnX x : Nat) : Int) := by unfold ppnX; omega
theorem lead_pos {x l : Nat} (h : leadX x l = true) : ∃ m, l = m + 1 := by
  cases l with
  | zero => simp [leadX] at h
  | succ m => exact ⟨m, rfl⟩
theorem el_one (x l a : Nat) : (#[.bool (bitB x 0), .bool (bitB x 1), .bool (bitB x 2), .bool (bitB x 3), .bool (bitB x 4), .bool (bitB x 5), .bool (bitB x 6), .bool (bitB x 7), .int .i64 ((x : Int) / 256 % 4), .int .u64 ((x : Int) / 1024 % 17592186044416), .int .i64 (l : Int), .int .u64 (a : Int)] : Array Value).all (·.oneCell') = true := by simp [Value.oneCell']
theorem lzer_one : (#[.bool false, .bool false, .bool false, .bool false, .bool false, .bool false, .bool false, .bool false, .int .i64 0, .int .u64 0, .int .i64 0, .int .u64 0] : Array Value).all (·.oneCell') = true := by simp [Value.oneCell']
theorem Mem.drew {w : World} {g n : Nat} {F : Nat → Prop} {S : Nat → List Nat} (h : Mem w g F n S) : Mem w.drew g F n S := h.keeps (G := fun _ => False) (Keeps.refl _ _).drew (fun _ _ h => h)
/-- What holds at the label. -/
def DnJ (g n va : Nat) (F : Nat → Prop) (S : Nat → List Nat) (fd : Fd) (W : World) (a : Act) (w : World) : Prop :=
  ∃ (l t pb : Nat) (c : Nat → Value), (∃ x : Nat → Value, a = ⟨#[.pointer (some ⟨g, 0, none⟩), x 1, .int .u64 (va : Int), x 3, x 4, x 5, .pointer (some ⟨W.heap.size + 1, 0, none⟩), .int .i64 0, x 8, .pointer (some ⟨pb, 0, none⟩), x 10, .int .i64 (l : Int), .int .u64 (t : Int), x 13, x 14, x 15, x 16, x 17, x 18, x 19, x 20, x 21, x 22, x 23, x 24, x 25, x 26, x 27, x 28, x 29, x 30, x 31, x 32, x 33, x 34, x 35, x 36, x 37, x 38, x 39, x 40, x 41, x 42, x 43, x 44, x 45, x 46, x 47, x 48, x 49, x 50, x 51, x 52, x 53, x 54, x 55, x 56, x 57, x 58, x 59, x 60, x 61, x 62, x 63, x 64, x 65, x 66, x 67, x 68, x 69, x 70, x 71, x 72, x 73, x 74], []⟩) ∧ l ≤ 2 ∧ t < 18446744073709551616 ∧ fd = findF n S va l t ∧
    Blk w (W.heap.size + 1) 38 #[.bool false, .bool false, .bool false, .bool false, .bool false, .bool false, .bool false, .bool false, .int .i64 0, .int .u64 0, .int .i64 0, .int .u64 0] ∧ Blk w pb 36 #[c 0, c 1, c 2, c 3, c 4, c 5, c 6, c 7, c 8, c 9] ∧ W.heap.size + 1 < pb ∧ Below W.heap.size W w
theorem at_wrap (va t : Nat) (l : Nat) : IntKind.u64.wrap (IntKind.u64.wrap ((t : Int) * 4096) + IntKind.u64.wrap (8 * IntKind.u64.wrap ((indexV va (l : Int) : Nat) : Int))) = ((atX va t l : Nat) : Int) := by
  rw [IntKind.wrap_u64, IntKind.wrap_u64, IntKind.wrap_u64, IntKind.wrap_u64]
  unfold atX
  omega
theorem u64_ix (va : Nat) (l : Int) : IntKind.u64.wrap ((indexV va l : Nat) : Int) = ((indexV va l : Nat) : Int) := by
  have : indexV va l < 512 := by
    unfold indexV
    split
    · exact fieldV_lt _ _ _
    · decide
  rw [IntKind.wrap_u64]; omega
set_option maxHeartbeats 4000000 in
theorem find_any (g n va ppn : Nat) (asid : Int) (on : Bool) (F : Nat → Prop) (S : Nat → List Nat) (W : World) (h : Mem W g F n S) (hv : va < 18446744073709551616) (hp : ppn < 18446744073709551616) (hon : on = true) (hca : canonB va = true) :
    Calls Try.prog 9 #[.pointer (some ⟨g, 0, none⟩), .agg #[.bool on, .int .i64 asid, .int .u64 (ppn : Int)], .int .u64 (va : Int)] W fun e w' =>
      e = .returned (.tuple #[fdV (findF n S va 2 ppn), .int .i64 (fdE (findF n S va 2 ppn))]) ∧ Below W.heap.size W w' := by
  have HM := Lib.hid h
  have HV := Lib.hid hv
  have HP := Lib.hid hp
  have HC := Lib.hid hca
  have HA : Hid (∃ W3, W3 = ((W.alloc (.cells #[.bool true, .int .i64 asid, .int .u64 (ppn : Int)] 31)).alloc (.cells #[.bool false, .bool false, .bool false, .bool false, .bool false, .bool false, .bool false, .bool false, .int .i64 0, .int .u64 0, .int .i64 0, .int .u64 0] 38)).alloc (.cells #[.bool false, .bool false, .bool false, .bool false, .bool false, .bool false, .bool false, .bool false, .int .i64 0, .int .u64 0] 36) ∧ W3.cell? ⟨W.heap.size, 2, none⟩ = some (.int .u64 (ppn : Int)) ∧ Blk W3 (W.heap.size + 1) 38 #[.bool false, .bool false, .bool false, .bool false, .bool false, .bool false, .bool false, .bool false, .int .i64 0, .int .u64 0, .int .i64 0, .int .u64 0] ∧ Blk W3 (W.heap.size + 1 + 1) 36 #[.bool false, .bool false, .bool false, .bool false, .bool false, .bool false, .bool false, .bool false, .int .i64 0, .int .u64 0] ∧ Below W.heap.size W W3 ∧ W.heap.size < W3.heap.size) := by
    refine Lib.hid ⟨_, rfl, by simp [go_sem], ?_, Blkf.new_at _ _ _ _ (by simp), (((Below.refl _ _).alloc (Nat.le_refl _) _).alloc (by simp) _).alloc (by simp; omega) _, by simp; omega⟩
    exact (Blkf.new_at _ _ _ _ (by simp)).alloc _
  clear h hv hp hca
  subst hon
  obtain ⟨fd, hfd⟩ : ∃ fd, fd = findF n S va 2 ppn := ⟨_, rfl⟩
  have HF := Lib.hid hfd
  rw [← hfd]
  clear hfd
  go_enter Try.func9, Try.ntmps9
  go_wp2_with fail
  refine wp_scope_jumps 0 (DnJ g n va F S fd W) (fun a _ => (intOf (a.tmps.getD 11 undef)).toNat) rfl ?_ ?_
  · go_wp2_with fail
    refine (canon_any va _ HV.out).mono ?_
    rintro e w' ⟨rfl, rfl⟩
    rw [HC.out]
    go_wp2_with fail
    obtain ⟨W3, hW3, hc2, hz, hpb, hb3, hsz⟩ := HA.out
    rw [← hW3]
    clear hW3
    have HZ := Lib.hid hz
    have HPB := Lib.hid hpb
    have HB3 := Lib.hid hb3
    have hs : ∀ W', Ext W3.drew W' → W'.cell? ⟨W.heap.size, 2, none⟩ = some (.int .u64 (ppn : Int)) := fun W' h => (h.cell hsz).trans hc2
    clear hz hpb hb3
    refine wp_region_plan [(0, false), (1, false), (2, false), (3, false)] (by kernel_rfl) (by kernel_rfl) (fun _ d _ _ _ h => by cases d <;> exact h) ?_
    iterate 4 (refine plan_take (v := ?_) rfl (by kernel_rfl) ?_ ?_; rotate_left; (focus (intro w' hw'; try go_simp; try with_reducible rfl)); simp only [Act.put, List.setIfInBounds_toArray, List.set_cons_zero, List.set_cons_succ])
    refine plan_end ?_
    go_wp2_with fail
    go_step3
    have HMW := Lib.hid ((HM.out.below HB3.out).drew)
    replace HZ := Lib.hid HZ.out.drew
    replace HPB := Lib.hid HPB.out.drew
    have HB := Lib.hid HB3.out.drew
    have HNE : Hid (W.heap.size + 1 < W.heap.size + 1 + 1) := Lib.hid (by omega)
    go_wp2_with fail
    refine (index_any va 2 _ HV.out).mono ?_
    rintro e w' ⟨rfl, rfl⟩
    go_wp2_with fail
    rw [show IntKind.u64.wrap (IntKind.u64.wrap ((ppn : Int) * 4096) + IntKind.u64.wrap (8 * IntKind.u64.wrap ((indexV va 2 : Nat) : Int))) = ((atX va ppn 2 : Nat) : Int) from at_wrap va ppn 2]
    have HEQ := Lib.hid (HF.out.trans (find_eq n S va 2 ppn))
    generalize hatx : atX va ppn 2 = at_ at *
    have HAT : Hid (at_ < 18446744073709551616) := Lib.hid (by rw [← hatx]; exact atX_lt _ _ _)
    have HAX := Lib.hid hatx
    clear hatx
    refine (entry_any g n at_ F S _ HMW.out HAT.out).mono ?_
    rintro e w1 ⟨rfl, hb1⟩
    have HZ1 := Lib.hid (HZ.out.below hb1 HZ.out.lt)
    have HPB1 := Lib.hid (HPB.out.below hb1 HPB.out.lt)
    have HB1 := Lib.hid (HB.out.trans (hb1.mono HB.out.size))
    have HZ2 : Hid (∀ cs, Blkf (w1.setRow (W.heap.size + 1 + 1) cs) (W.heap.size + 1) 38 (0, 0) #[.bool false, .bool false, .bool false, .bool false, .bool false, .bool false, .bool false, .bool false, .int .i64 0, .int .u64 0, .int .i64 0, .int .u64 0]) := Lib.hid fun cs => HZ1.out.setRow_far (by have := HNE.out; omega) cs
    have HB2 : Hid (∀ cs, Below W.heap.size W (w1.setRow (W.heap.size + 1 + 1) cs)) := Lib.hid fun cs => below_setRow HB1.out (by have := HNE.out; omega) cs
    clear hb1
    by_cases hE : entE n S at_ = 0
    · have hV : entV n S at_ = entryV (ldR n S at_ 8) := if_pos hE
      rw [hV, hE]
      have hok := fdAt_ok (n := n) (S := S) (va := va) (l := 2) (t := ppn) (k := nextF n S va ppn 2) (by rw [HAX.out]; exact hE)
      rw [← HEQ.out, HAX.out] at hok
      obtain ⟨x0, hx0⟩ : ∃ x0, x0 = ldR n S at_ 8 := ⟨_, rfl⟩
      rw [← hx0] at hok ⊢
      have HOK := Lib.hid hok
      have HX0 := Lib.hid hx0
      clear hok hx0 hV hE
      have HPB2 := Lib.hid (HPB1.out.setRow (#[.bool (bitB x0 0), .bool (bitB x0 1), .bool (bitB x0 2), .bool (bitB x0 3), .bool (bitB x0 4), .bool (bitB x0 5), .bool (bitB x0 6), .bool (bitB x0 7), .int .i64 ((x0 : Int) / 256 % 4), .int .u64 ((x0 : Int) / 1024 % 17592186044416)]))
      have hp2 : ∀ W', Ext (w1.setRow (W.heap.size + 1 + 1) (#[.bool (bitB x0 0), .bool (bitB x0 1), .bool (bitB x0 2), .bool (bitB x0 3), .bool (bitB x0 4), .bool (bitB x0 5), .bool (bitB x0 6), .bool (bitB x0 7), .int .i64 ((x0 : Int) / 256 % 4), .int .u64 ((x0 : Int) / 1024 % 17592186044416)])) W' → Blk W' (W.heap.size + 1 + 1) 36 (#[.bool (bitB x0 0), .bool (bitB x0 1), .bool (bitB x0 2), .bool (bitB x0 3), .bool (bitB x0 4), .bool (bitB x0 5), .bool (bitB x0 6), .bool (bitB x0 7), .int .i64 ((x0 : Int) / 256 % 4), .int .u64 ((x0 : Int) / 1024 % 17592186044416)]) := fun W' h => HPB2.out.below h HPB2.out.lt
      go_wp2_with (first | ((with_reducible refine wl_store 36 (.tmp 9) (.tmp 41) rfl ?_ (W.heap.size + 1 + 1) 36 _ #[.bool (bitB x0 0), .bool (bitB x0 1), .bool (bitB x0 2), .bool (bitB x0 3), .bool (bitB x0 4), .bool (bitB x0 5), .bool (bitB x0 6), .bool (bitB x0 7), .int .i64 ((x0 : Int) / 256 % 4), .int .u64 ((x0 : Int) / 1024 % 17592186044416)] ?_ ?_ HPB1.out ?_ ?_ ?_ ?_); exact rfl; exact rfl; exact rfl; exact rfl; exact pte_row; exact pte_one x0) | ((with_reducible refine wl_load 36 (.tmp 9) rfl ?_ (W.heap.size + 1 + 1) 0 #[.bool (bitB x0 0), .bool (bitB x0 1), .bool (bitB x0 2), .bool (bitB x0 3), .bool (bitB x0 4), .bool (bitB x0 5), .bool (bitB x0 6), .bool (bitB x0 7), .int .i64 ((x0 : Int) / 256 % 4), .int .u64 ((x0 : Int) / 1024 % 17592186044416)] ?_ HPB2.out.range ?_ ?_); exact rfl; exact rfl; exact pte_row))
      refine (leafx_any x0 _).mono ?_
      rintro e w2 ⟨rfl, hb2⟩
      have HZ3 := Lib.hid ((HZ2.out _).below hb2 (HZ2.out _).lt)
      have HPB3 := Lib.hid (HPB2.out.below hb2 HPB2.out.lt)
      have HB3' := Lib.hid ((HB2.out _).trans (hb2.mono (HB2.out _).size))
      clear hb2 hp2
      have hc9 := HPB3.out.cell 9
      simp at hc9
      rcases Bool.eq_false_or_eq_true (leafX x0) with hlf | hlf
      · rw [hlf]
        go_wp2_with (first | ((with_reducible refine wl_load 36 (.tmp 9) rfl ?_ (W.heap.size + 1 + 1) 0 #[.bool (bitB x0 0), .bool (bitB x0 1), .bool (bitB x0 2), .bool (bitB x0 3), .bool (bitB x0 4), .bool (bitB x0 5), .bool (bitB x0 6), .bool (bitB x0 7), .int .i64 ((x0 : Int) / 256 % 4), .int .u64 ((x0 : Int) / 1024 % 17592186044416)] ?_ HPB3.out.range ?_ ?_); exact rfl; exact rfl; exact pte_row))
        rw [ppn_x]
        refine (even_any (ppnX x0) 2 _ (Nat.lt_trans (ppnX_lt _) (by decide)) (by decide)).mono ?_
        rintro e w3 ⟨rfl, rfl⟩
        rcases Bool.eq_false_or_eq_true (evenB (ppnX x0) 2) with hev | hev
        · rw [hev]
          have HFE : Hid (fd = .leaf x0 2 at_) := Lib.hid (by rw [HOK.out, if_pos hlf, if_pos hev])
          clear hlf hev
          go_wp2_with (first | ((with_reducible refine wl_load 36 (.tmp 9) rfl ?_ (W.heap.size + 1 + 1) 0 #[.bool (bitB x0 0), .bool (bitB x0 1), .bool (bitB x0 2), .bool (bitB x0 3), .bool (bitB x0 4), .bool (bitB x0 5), .bool (bitB x0 6), .bool (bitB x0 7), .int .i64 ((x0 : Int) / 256 % 4), .int .u64 ((x0 : Int) / 1024 % 17592186044416)] ?_ HPB3.out.range ?_ ?_); exact rfl; exact rfl; exact pte_row) | ((with_reducible refine wl_store 38 (.tmp 6) (.tmp 60) rfl ?_ (W.heap.size + 1) 38 #[.bool false, .bool false, .bool false, .bool false, .bool false, .bool false, .bool false, .bool false, .int .i64 0, .int .u64 0, .int .i64 0, .int .u64 0] #[.bool (bitB x0 0), .bool (bitB x0 1), .bool (bitB x0 2), .bool (bitB x0 3), .bool (bitB x0 4), .bool (bitB x0 5), .bool (bitB x0 6), .bool (bitB x0 7), .int .i64 ((x0 : Int) / 256 % 4), .int .u64 ((x0 : Int) / 1024 % 17592186044416), .int .i64 (2 : Int), .int .u64 (at_ : Int)] ?_ ?_ HZ3.out ?_ ?_ ?_ ?_); exact rfl; exact rfl; exact rfl; exact rfl; exact leaf_row; exact el_one x0 2 at_))
          simp only [Exit.jump]
          refine bodyPost_ret (res_cell_slot (cs := #[.bool (bitB x0 0), .bool (bitB x0 1), .bool (bitB x0 2), .bool (bitB x0 3), .bool (bitB x0 4), .bool (bitB x0 5), .bool (bitB x0 6), .bool (bitB x0 7), .int .i64 ((x0 : Int) / 256 % 4), .int .u64 ((x0 : Int) / 1024 % 17592186044416), .int .i64 (2 : Int), .int .u64 (at_ : Int)]) (v := .int .i64 0) rfl _ _ (W.heap.size + 1) 38 rfl rfl (HZ3.out.setRow _) leaf_row) rfl ⟨?_, below_setRow HB3'.out (Nat.le_succ _) _⟩
          rw [HFE.out]
          rfl
        · rw [hev]
          have HFE : Hid (fd = .err 51) := Lib.hid (by rw [HOK.out, if_pos hlf, if_neg (by rw [hev]; decide)])
          go_wp2_with (first | ((with_reducible refine wl_load 36 (.tmp 9) rfl ?_ (W.heap.size + 1 + 1) 0 #[.bool (bitB x0 0), .bool (bitB x0 1), .bool (bitB x0 2), .bool (bitB x0 3), .bool (bitB x0 4), .bool (bitB x0 5), .bool (bitB x0 6), .bool (bitB x0 7), .int .i64 ((x0 : Int) / 256 % 4), .int .u64 ((x0 : Int) / 1024 % 17592186044416)] ?_ HPB3.out.range ?_ ?_); exact rfl; exact rfl; exact pte_row))
          refine (leafx_any x0 _).mono ?_
          rintro e w4 ⟨rfl, hb4⟩
          rw [hlf]
          have HZ4 := Lib.hid (HZ3.out.below hb4 HZ3.out.lt)
          have HB4 := Lib.hid (HB3'.out.trans (hb4.mono HB3'.out.size))
          clear hb4 hc9 hlf hev
          go_wp2_with (first | ((with_reducible refine wl_store 38 (.tmp 6) (.tmp 70) rfl ?_ (W.heap.size + 1) 38 #[.bool false, .bool false, .bool false, .bool false, .bool false, .bool false, .bool false, .bool false, .int .i64 0, .int .u64 0, .int .i64 0, .int .u64 0] #[.bool false, .bool false, .bool false, .bool false, .bool false, .bool false, .bool false, .bool false, .int .i64 0, .int .u64 0, .int .i64 0, .int .u64 0] ?_ ?_ HZ4.out ?_ ?_ ?_ ?_); exact rfl; exact rfl; exact rfl; exact rfl; exact leaf_row; exact lzer_one))
          simp only [Exit.jump]
          refine bodyPost_ret (res_cell_slot (cs := #[.bool false, .bool false, .bool false, .bool false, .bool false, .bool false, .bool false, .bool false, .int .i64 0, .int .u64 0, .int .i64 0, .int .u64 0]) (v := .int .i64 51) rfl _ _ (W.heap.size + 1) 38 rfl rfl (HZ4.out.setRow _) leaf_row) rfl ⟨?_, below_setRow HB4.out (Nat.le_succ _) _⟩
          rw [HFE.out]
          rfl
      · rw [hlf]
        go_wp2_with (first | ((with_reducible refine wl_load 36 (.tmp 9) rfl ?_ (W.heap.size + 1 + 1) 0 #[.bool (bitB x0 0), .bool (bitB x0 1), .bool (bitB x0 2), .bool (bitB x0 3), .bool (bitB x0 4), .bool (bitB x0 5), .bool (bitB x0 6), .bool (bitB x0 7), .int .i64 ((x0 : Int) / 256 % 4), .int .u64 ((x0 : Int) / 1024 % 17592186044416)] ?_ HPB3.out.range ?_ ?_); exact rfl; exact rfl; exact pte_row))
        refine (leafx_any x0 _).mono ?_
        rintro e w4 ⟨rfl, hb4⟩
        rw [hlf]
        have HZ4 := Lib.hid (HZ3.out.below hb4 HZ3.out.lt)
        have HPB4 := Lib.hid (HPB3.out.below hb4 HPB3.out.lt)
        have HB4 := Lib.hid (HB3'.out.trans (hb4.mono HB3'.out.size))
        clear hb4 hc9
        go_wp2_with (first | ((with_reducible refine wl_load 36 (.tmp 9) rfl ?_ (W.heap.size + 1 + 1) 0 #[.bool (bitB x0 0), .bool (bitB x0 1), .bool (bitB x0 2), .bool (bitB x0 3), .bool (bitB x0 4), .bool (bitB x0 5), .bool (bitB x0 6), .bool (bitB x0 7), .int .i64 ((x0 : Int) / 256 % 4), .int .u64 ((x0 : Int) / 1024 % 17592186044416)] ?_ HPB4.out.range ?_ ?_); exact rfl; exact rfl; exact pte_row))
        refine (leadsx_any x0 2 (by decide) _).mono ?_
        rintro e w5 ⟨rfl, hb5⟩
        have HZ5 := Lib.hid (HZ4.out.below hb5 HZ4.out.lt)
        have HPB5 := Lib.hid (HPB4.out.below hb5 HPB4.out.lt)
        have HB5 := Lib.hid (HB4.out.trans (hb5.mono HB4.out.size))
        clear hb5
        rcases Bool.eq_false_or_eq_true (leadX x0 2) with hld | hld
        · rw [hld]
          have HFE : Hid (fd = nextF n S va ppn 2) := Lib.hid (by rw [HOK.out, if_neg (by rw [hlf]; decide), if_pos hld])
          have hs : ∀ W', Ext w5.drew W' → W'.cell? ⟨(W.heap.size + 1 + 1), 9, none⟩ = some (.int .u64 ((x0 : Int) / 1024 % 17592186044416)) := fun W' h => (h.cell HPB5.out.drew.lt).trans (HPB5.out.cell 9)
          have HWR : Hid (IntKind.i64.wrap 1 = ((1 : Nat) : Int)) := Lib.hid rfl
          clear hlf hld
          go_wp2_with fail
          refine wp_region_plan [(0, false), (1, false), (2, false), (3, false), (4, false), (5, false)] (by kernel_rfl) (by kernel_rfl) (fun _ d _ _ _ h => by cases d <;> exact h) ?_
          iterate 6 (refine plan_take (v := ?_) rfl (by kernel_rfl) ?_ ?_; rotate_left; (focus (intro w' hw'; try go_simp; try with_reducible rfl)); simp only [Act.put, List.setIfInBounds_toArray, List.set_cons_zero, List.set_cons_succ])
          refine plan_end ?_
          go_wp2_with fail
          go_step3
          rw [ppn_x, HWR.out]
          refine ⟨rfl, 1, ppnX x0, (W.heap.size + 1 + 1), fun i => ((#[.bool (bitB x0 0), .bool (bitB x0 1), .bool (bitB x0 2), .bool (bitB x0 3), .bool (bitB x0 4), .bool (bitB x0 5), .bool (bitB x0 6), .bool (bitB x0 7), .int .i64 ((x0 : Int) / 256 % 4), .int .u64 ((x0 : Int) / 1024 % 17592186044416)]) : Array Value).getD i undef, fr_intro _ rfl, by decide, Nat.lt_trans (ppnX_lt _) (by decide), ?_, HZ5.out.drew, HPB5.out.drew, HNE.out, HB5.out.drew⟩
          rw [HFE.out, HX0.out, ← HAX.out]
          rfl
        · rw [hld]
          have HFE : Hid (fd = .err 51) := Lib.hid (by rw [HOK.out, if_neg (by rw [hlf]; decide), if_neg (by rw [hld]; decide)])
          clear hlf hld
          go_wp2_with (first | ((with_reducible refine wl_store 38 (.tmp 6) (.tmp 70) rfl ?_ (W.heap.size + 1) 38 #[.bool false, .bool false, .bool false, .bool false, .bool false, .bool false, .bool false, .bool false, .int .i64 0, .int .u64 0, .int .i64 0, .int .u64 0] #[.bool false, .bool false, .bool false, .bool false, .bool false, .bool false, .bool false, .bool false, .int .i64 0, .int .u64 0, .int .i64 0, .int .u64 0] ?_ ?_ HZ5.out ?_ ?_ ?_ ?_); exact rfl; exact rfl; exact rfl; exact rfl; exact leaf_row; exact lzer_one))
          simp only [Exit.jump]
          refine bodyPost_ret (res_cell_slot (cs := #[.bool false, .bool false, .bool false, .bool false, .bool false, .bool false, .bool false, .bool false, .int .i64 0, .int .u64 0, .int .i64 0, .int .u64 0]) (v := .int .i64 51) rfl _ _ (W.heap.size + 1) 38 rfl rfl (HZ5.out.setRow _) leaf_row) rfl ⟨?_, below_setRow HB5.out (Nat.le_succ _) _⟩
          rw [HFE.out]
          rfl
    · have hV : entV n S at_ = pteZ := if_neg hE
      rw [hV]
      have HFE : Hid (fd = .err (entE n S at_)) := Lib.hid (by rw [HEQ.out, ← HAX.out]; exact fdAt_err (by rw [HAX.out]; exact hE))
      have hne : (entE n S at_ != 0) = true := by simpa using hE
      clear hV hE
      generalize entE n S at_ = E at *
      go_wp2_with (first | ((with_reducible refine wl_store 36 (.tmp 9) (.tmp 41) rfl ?_ (W.heap.size + 1 + 1) 36 _ #[.bool false, .bool false, .bool false, .bool false, .bool false, .bool false, .bool false, .bool false, .int .i64 0, .int .u64 0] ?_ ?_ HPB1.out ?_ ?_ ?_ ?_); exact rfl; exact rfl; exact rfl; exact rfl; exact pte_row; exact zer_one) | ((with_reducible refine wl_store 38 (.tmp 6) (.tmp 46) rfl ?_ (W.heap.size + 1) 38 #[.bool false, .bool false, .bool false, .bool false, .bool false, .bool false, .bool false, .bool false, .int .i64 0, .int .u64 0, .int .i64 0, .int .u64 0] #[.bool false, .bool false, .bool false, .bool false, .bool false, .bool false, .bool false, .bool false, .int .i64 0, .int .u64 0, .int .i64 0, .int .u64 0] ?_ ?_ (HZ2.out _) ?_ ?_ ?_ ?_); exact rfl; exact rfl; exact rfl; exact rfl; exact leaf_row; exact lzer_one))
      simp only [Exit.jump]
      refine bodyPost_ret (res_cell_slot (cs := #[.bool false, .bool false, .bool false, .bool false, .bool false, .bool false, .bool false, .bool false, .int .i64 0, .int .u64 0, .int .i64 0, .int .u64 0]) (v := .int .i64 E) rfl _ _ (W.heap.size + 1) 38 rfl rfl ((HZ2.out _).setRow _) leaf_row) rfl ⟨?_, below_setRow (HB2.out _) (Nat.le_succ _) _⟩
      rw [HFE.out]
      rfl
  · rintro a w ⟨l, t, pb, c, ⟨x, rfl⟩, hl, ht, hfd, hz, hpb, hne, hb⟩
    clear HA HP HC
    have HL := Lib.hid hl
    have HT := Lib.hid ht
    clear HF
    have HF := Lib.hid hfd
    have HZ := Lib.hid hz
    have HPB := Lib.hid hpb
    have HNE := Lib.hid hne
    have HB := Lib.hid hb
    have HMW := Lib.hid (HM.out.below hb)
    clear hl ht hfd hz hpb hne hb
    go_wp2_with fail
    refine (index_any va l _ HV.out).mono ?_
    rintro e w' ⟨rfl, rfl⟩
    go_wp2_with fail
    rw [show IntKind.u64.wrap (IntKind.u64.wrap ((t : Int) * 4096) + IntKind.u64.wrap (8 * IntKind.u64.wrap ((indexV va l : Nat) : Int))) = ((atX va t l : Nat) : Int) from at_wrap va t l]
    have HEQ := Lib.hid (HF.out.trans (find_eq n S va l t))
    generalize hatx : atX va t l = at_ at *
    have HAT : Hid (at_ < 18446744073709551616) := Lib.hid (by rw [← hatx]; exact atX_lt _ _ _)
    have HAX := Lib.hid hatx
    clear hatx
    refine (entry_any g n at_ F S _ HMW.out HAT.out).mono ?_
    rintro e w1 ⟨rfl, hb1⟩
    have HZ1 := Lib.hid (HZ.out.below hb1 HZ.out.lt)
    have HPB1 := Lib.hid (HPB.out.below hb1 HPB.out.lt)
    have HB1 := Lib.hid (HB.out.trans (hb1.mono HB.out.size))
    have HZ2 : Hid (∀ cs, Blkf (w1.setRow pb cs) (W.heap.size + 1) 38 (0, 0) #[.bool false, .bool false, .bool false, .bool false, .bool false, .bool false, .bool false, .bool false, .int .i64 0, .int .u64 0, .int .i64 0, .int .u64 0]) := Lib.hid fun cs => HZ1.out.setRow_far (by have := HNE.out; omega) cs
    have HB2 : Hid (∀ cs, Below W.heap.size W (w1.setRow pb cs)) := Lib.hid fun cs => below_setRow HB1.out (by have := HNE.out; omega) cs
    clear hb1
    by_cases hE : entE n S at_ = 0
    · have hV : entV n S at_ = entryV (ldR n S at_ 8) := if_pos hE
      rw [hV, hE]
      have hok := fdAt_ok (n := n) (S := S) (va := va) (l := l) (t := t) (k := nextF n S va t l) (by rw [HAX.out]; exact hE)
      rw [← HEQ.out, HAX.out] at hok
      obtain ⟨x0, hx0⟩ : ∃ x0, x0 = ldR n S at_ 8 := ⟨_, rfl⟩
      rw [← hx0] at hok ⊢
      have HOK := Lib.hid hok
      have HX0 := Lib.hid hx0
      clear hok hx0 hV hE
      have HPB2 := Lib.hid (HPB1.out.setRow (#[.bool (bitB x0 0), .bool (bitB x0 1), .bool (bitB x0 2), .bool (bitB x0 3), .bool (bitB x0 4), .bool (bitB x0 5), .bool (bitB x0 6), .bool (bitB x0 7), .int .i64 ((x0 : Int) / 256 % 4), .int .u64 ((x0 : Int) / 1024 % 17592186044416)]))
      have hp2 : ∀ W', Ext (w1.setRow pb (#[.bool (bitB x0 0), .bool (bitB x0 1), .bool (bitB x0 2), .bool (bitB x0 3), .bool (bitB x0 4), .bool (bitB x0 5), .bool (bitB x0 6), .bool (bitB x0 7), .int .i64 ((x0 : Int) / 256 % 4), .int .u64 ((x0 : Int) / 1024 % 17592186044416)])) W' → Blk W' pb 36 (#[.bool (bitB x0 0), .bool (bitB x0 1), .bool (bitB x0 2), .bool (bitB x0 3), .bool (bitB x0 4), .bool (bitB x0 5), .bool (bitB x0 6), .bool (bitB x0 7), .int .i64 ((x0 : Int) / 256 % 4), .int .u64 ((x0 : Int) / 1024 % 17592186044416)]) := fun W' h => HPB2.out.below h HPB2.out.lt
      go_wp2_with (first | ((with_reducible refine wl_store 36 (.tmp 9) (.tmp 41) rfl ?_ pb 36 _ #[.bool (bitB x0 0), .bool (bitB x0 1), .bool (bitB x0 2), .bool (bitB x0 3), .bool (bitB x0 4), .bool (bitB x0 5), .bool (bitB x0 6), .bool (bitB x0 7), .int .i64 ((x0 : Int) / 256 % 4), .int .u64 ((x0 : Int) / 1024 % 17592186044416)] ?_ ?_ HPB1.out ?_ ?_ ?_ ?_); exact rfl; exact rfl; exact rfl; exact rfl; exact pte_row; exact pte_one x0) | ((with_reducible refine wl_load 36 (.tmp 9) rfl ?_ pb 0 #[.bool (bitB x0 0), .bool (bitB x0 1), .bool (bitB x0 2), .bool (bitB x0 3), .bool (bitB x0 4), .bool (bitB x0 5), .bool (bitB x0 6), .bool (bitB x0 7), .int .i64 ((x0 : Int) / 256 % 4), .int .u64 ((x0 : Int) / 1024 % 17592186044416)] ?_ HPB2.out.range ?_ ?_); exact rfl; exact rfl; exact pte_row))
      refine (leafx_any x0 _).mono ?_
      rintro e w2 ⟨rfl, hb2⟩
      have HZ3 := Lib.hid ((HZ2.out _).below hb2 (HZ2.out _).lt)
      have HPB3 := Lib.hid (HPB2.out.below hb2 HPB2.out.lt)
      have HB3' := Lib.hid ((HB2.out _).trans (hb2.mono (HB2.out _).size))
      clear hb2 hp2
      have hc9 := HPB3.out.cell 9
      simp at hc9
      rcases Bool.eq_false_or_eq_true (leafX x0) with hlf | hlf
      · rw [hlf]
        go_wp2_with (first | ((with_reducible refine wl_load 36 (.tmp 9) rfl ?_ pb 0 #[.bool (bitB x0 0), .bool (bitB x0 1), .bool (bitB x0 2), .bool (bitB x0 3), .bool (bitB x0 4), .bool (bitB x0 5), .bool (bitB x0 6), .bool (bitB x0 7), .int .i64 ((x0 : Int) / 256 % 4), .int .u64 ((x0 : Int) / 1024 % 17592186044416)] ?_ HPB3.out.range ?_ ?_); exact rfl; exact rfl; exact pte_row))
        rw [ppn_x]
        refine (even_any (ppnX x0) l _ (Nat.lt_trans (ppnX_lt _) (by decide)) HL.out).mono ?_
        rintro e w3 ⟨rfl, rfl⟩
        rcases Bool.eq_false_or_eq_true (evenB (ppnX x0) l) with hev | hev
        · rw [hev]
          have HFE : Hid (fd = .leaf x0 l at_) := Lib.hid (by rw [HOK.out, if_pos hlf, if_pos hev])
          clear hlf hev
          go_wp2_with (first | ((with_reducible refine wl_load 36 (.tmp 9) rfl ?_ pb 0 #[.bool (bitB x0 0), .bool (bitB x0 1), .bool (bitB x0 2), .bool (bitB x0 3), .bool (bitB x0 4), .bool (bitB x0 5), .bool (bitB x0 6), .bool (bitB x0 7), .int .i64 ((x0 : Int) / 256 % 4), .int .u64 ((x0 : Int) / 1024 % 17592186044416)] ?_ HPB3.out.range ?_ ?_); exact rfl; exact rfl; exact pte_row) | ((with_reducible refine wl_store 38 (.tmp 6) (.tmp 60) rfl ?_ (W.heap.size + 1) 38 #[.bool false, .bool false, .bool false, .bool false, .bool false, .bool false, .bool false, .bool false, .int .i64 0, .int .u64 0, .int .i64 0, .int .u64 0] #[.bool (bitB x0 0), .bool (bitB x0 1), .bool (bitB x0 2), .bool (bitB x0 3), .bool (bitB x0 4), .bool (bitB x0 5), .bool (bitB x0 6), .bool (bitB x0 7), .int .i64 ((x0 : Int) / 256 % 4), .int .u64 ((x0 : Int) / 1024 % 17592186044416), .int .i64 (l : Int), .int .u64 (at_ : Int)] ?_ ?_ HZ3.out ?_ ?_ ?_ ?_); exact rfl; exact rfl; exact rfl; exact rfl; exact leaf_row; exact el_one x0 l at_))
          simp only [Exit.jump]
          refine bodyPost_ret (res_cell_slot (cs := #[.bool (bitB x0 0), .bool (bitB x0 1), .bool (bitB x0 2), .bool (bitB x0 3), .bool (bitB x0 4), .bool (bitB x0 5), .bool (bitB x0 6), .bool (bitB x0 7), .int .i64 ((x0 : Int) / 256 % 4), .int .u64 ((x0 : Int) / 1024 % 17592186044416), .int .i64 (l : Int), .int .u64 (at_ : Int)]) (v := .int .i64 0) rfl _ _ (W.heap.size + 1) 38 rfl rfl (HZ3.out.setRow _) leaf_row) rfl ⟨?_, below_setRow HB3'.out (Nat.le_succ _) _⟩
          rw [HFE.out]
          rfl
        · rw [hev]
          have HFE : Hid (fd = .err 51) := Lib.hid (by rw [HOK.out, if_pos hlf, if_neg (by rw [hev]; decide)])
          go_wp2_with (first | ((with_reducible refine wl_load 36 (.tmp 9) rfl ?_ pb 0 #[.bool (bitB x0 0), .bool (bitB x0 1), .bool (bitB x0 2), .bool (bitB x0 3), .bool (bitB x0 4), .bool (bitB x0 5), .bool (bitB x0 6), .bool (bitB x0 7), .int .i64 ((x0 : Int) / 256 % 4), .int .u64 ((x0 : Int) / 1024 % 17592186044416)] ?_ HPB3.out.range ?_ ?_); exact rfl; exact rfl; exact pte_row))
          refine (leafx_any x0 _).mono ?_
          rintro e w4 ⟨rfl, hb4⟩
          rw [hlf]
          have HZ4 := Lib.hid (HZ3.out.below hb4 HZ3.out.lt)
          have HB4 := Lib.hid (HB3'.out.trans (hb4.mono HB3'.out.size))
          clear hb4 hc9 hlf hev
          go_wp2_with (first | ((with_reducible refine wl_store 38 (.tmp 6) (.tmp 70) rfl ?_ (W.heap.size + 1) 38 #[.bool false, .bool false, .bool false, .bool false, .bool false, .bool false, .bool false, .bool false, .int .i64 0, .int .u64 0, .int .i64 0, .int .u64 0] #[.bool false, .bool false, .bool false, .bool false, .bool false, .bool false, .bool false, .bool false, .int .i64 0, .int .u64 0, .int .i64 0, .int .u64 0] ?_ ?_ HZ4.out ?_ ?_ ?_ ?_); exact rfl; exact rfl; exact rfl; exact rfl; exact leaf_row; exact lzer_one))
          simp only [Exit.jump]
          refine bodyPost_ret (res_cell_slot (cs := #[.bool false, .bool false, .bool false, .bool false, .bool false, .bool false, .bool false, .bool false, .int .i64 0, .int .u64 0, .int .i64 0, .int .u64 0]) (v := .int .i64 51) rfl _ _ (W.heap.size + 1) 38 rfl rfl (HZ4.out.setRow _) leaf_row) rfl ⟨?_, below_setRow HB4.out (Nat.le_succ _) _⟩
          rw [HFE.out]
          rfl
      · rw [hlf]
        go_wp2_with (first | ((with_reducible refine wl_load 36 (.tmp 9) rfl ?_ pb 0 #[.bool (bitB x0 0), .bool (bitB x0 1), .bool (bitB x0 2), .bool (bitB x0 3), .bool (bitB x0 4), .bool (bitB x0 5), .bool (bitB x0 6), .bool (bitB x0 7), .int .i64 ((x0 : Int) / 256 % 4), .int .u64 ((x0 : Int) / 1024 % 17592186044416)] ?_ HPB3.out.range ?_ ?_); exact rfl; exact rfl; exact pte_row))
        refine (leafx_any x0 _).mono ?_
        rintro e w4 ⟨rfl, hb4⟩
        rw [hlf]
        have HZ4 := Lib.hid (HZ3.out.below hb4 HZ3.out.lt)
        have HPB4 := Lib.hid (HPB3.out.below hb4 HPB3.out.lt)
        have HB4 := Lib.hid (HB3'.out.trans (hb4.mono HB3'.out.size))
        clear hb4 hc9
        go_wp2_with (first | ((with_reducible refine wl_load 36 (.tmp 9) rfl ?_ pb 0 #[.bool (bitB x0 0), .bool (bitB x0 1), .bool (bitB x0 2), .bool (bitB x0 3), .bool (bitB x0 4), .bool (bitB x0 5), .bool (bitB x0 6), .bool (bitB x0 7), .int .i64 ((x0 : Int) / 256 % 4), .int .u64 ((x0 : Int) / 1024 % 17592186044416)] ?_ HPB4.out.range ?_ ?_); exact rfl; exact rfl; exact pte_row))
        refine (leadsx_any x0 l HL.out _).mono ?_
        rintro e w5 ⟨rfl, hb5⟩
        have HZ5 := Lib.hid (HZ4.out.below hb5 HZ4.out.lt)
        have HPB5 := Lib.hid (HPB4.out.below hb5 HPB4.out.lt)
        have HB5 := Lib.hid (HB4.out.trans (hb5.mono HB4.out.size))
        clear hb5
        rcases Bool.eq_false_or_eq_true (leadX x0 l) with hld | hld
        · rw [hld]
          have HFE : Hid (fd = nextF n S va t l) := Lib.hid (by rw [HOK.out, if_neg (by rw [hlf]; decide), if_pos hld])
          have hs : ∀ W', Ext w5.drew W' → W'.cell? ⟨pb, 9, none⟩ = some (.int .u64 ((x0 : Int) / 1024 % 17592186044416)) := fun W' h => (h.cell HPB5.out.drew.lt).trans (HPB5.out.cell 9)
          obtain ⟨m, rfl⟩ : ∃ m, l = m + 1 := lead_pos hld
          have HWR : Hid (IntKind.i64.wrap (m : Int) = (m : Int)) := Lib.hid (IntWalk.i64_in _ (by have := HL.out; omega))
          clear hlf hld
          go_wp2_with fail
          refine wp_region_plan [(0, false), (1, false), (2, false), (3, false), (4, false), (5, false)] (by kernel_rfl) (by kernel_rfl) (fun _ d _ _ _ h => by cases d <;> exact h) ?_
          iterate 6 (refine plan_take (v := ?_) rfl (by kernel_rfl) ?_ ?_; rotate_left; (focus (intro w' hw'; try go_simp; try with_reducible rfl)); simp only [Act.put, List.setIfInBounds_toArray, List.set_cons_zero, List.set_cons_succ])
          refine plan_end ?_
          go_wp2_with fail
          go_step3
          rw [ppn_x, HWR.out]
          refine ⟨rfl, ⟨m, ppnX x0, pb, fun i => ((#[.bool (bitB x0 0), .bool (bitB x0 1), .bool (bitB x0 2), .bool (bitB x0 3), .bool (bitB x0 4), .bool (bitB x0 5), .bool (bitB x0 6), .bool (bitB x0 7), .int .i64 ((x0 : Int) / 256 % 4), .int .u64 ((x0 : Int) / 1024 % 17592186044416)]) : Array Value).getD i undef, fr_intro _ rfl, by have := HL.out; omega, Nat.lt_trans (ppnX_lt _) (by decide), ?_, HZ5.out.drew, HPB5.out.drew, HNE.out, HB5.out.drew⟩, ?_⟩
          rw [HFE.out, HX0.out, ← HAX.out]
          rfl
          simp [intOf]
        · rw [hld]
          have HFE : Hid (fd = .err 51) := Lib.hid (by rw [HOK.out, if_neg (by rw [hlf]; decide), if_neg (by rw [hld]; decide)])
          clear hlf hld
          go_wp2_with (first | ((with_reducible refine wl_store 38 (.tmp 6) (.tmp 70) rfl ?_ (W.heap.size + 1) 38 #[.bool false, .bool false, .bool false, .bool false, .bool false, .bool false, .bool false, .bool false, .int .i64 0, .int .u64 0, .int .i64 0, .int .u64 0] #[.bool false, .bool false, .bool false, .bool false, .bool false, .bool false, .bool false, .bool false, .int .i64 0, .int .u64 0, .int .i64 0, .int .u64 0] ?_ ?_ HZ5.out ?_ ?_ ?_ ?_); exact rfl; exact rfl; exact rfl; exact rfl; exact leaf_row; exact lzer_one))
          simp only [Exit.jump]
          refine bodyPost_ret (res_cell_slot (cs := #[.bool false, .bool false, .bool false, .bool false, .bool false, .bool false, .bool false, .bool false, .int .i64 0, .int .u64 0, .int .i64 0, .int .u64 0]) (v := .int .i64 51) rfl _ _ (W.heap.size + 1) 38 rfl rfl (HZ5.out.setRow _) leaf_row) rfl ⟨?_, below_setRow HB5.out (Nat.le_succ _) _⟩
          rw [HFE.out]
          rfl
    · have hV : entV n S at_ = pteZ := if_neg hE
      rw [hV]
      have HFE : Hid (fd = .err (entE n S at_)) := Lib.hid (by rw [HEQ.out, ← HAX.out]; exact fdAt_err (by rw [HAX.out]; exact hE))
      have hne : (entE n S at_ != 0) = true := by simpa using hE
      clear hV hE
      generalize entE n S at_ = E at *
      go_wp2_with (first | ((with_reducible refine wl_store 36 (.tmp 9) (.tmp 41) rfl ?_ pb 36 _ #[.bool false, .bool false, .bool false, .bool false, .bool false, .bool false, .bool false, .bool false, .int .i64 0, .int .u64 0] ?_ ?_ HPB1.out ?_ ?_ ?_ ?_); exact rfl; exact rfl; exact rfl; exact rfl; exact pte_row; exact zer_one) | ((with_reducible refine wl_store 38 (.tmp 6) (.tmp 46) rfl ?_ (W.heap.size + 1) 38 #[.bool false, .bool false, .bool false, .bool false, .bool false, .bool false, .bool false, .bool false, .int .i64 0, .int .u64 0, .int .i64 0, .int .u64 0] #[.bool false, .bool false, .bool false, .bool false, .bool false, .bool false, .bool false, .bool false, .int .i64 0, .int .u64 0, .int .i64 0, .int .u64 0] ?_ ?_ (HZ2.out _) ?_ ?_ ?_ ?_); exact rfl; exact rfl; exact rfl; exact rfl; exact leaf_row; exact lzer_one))
      simp only [Exit.jump]
      refine bodyPost_ret (res_cell_slot (cs := #[.bool false, .bool false, .bool false, .bool false, .bool false, .bool false, .bool false, .bool false, .int .i64 0, .int .u64 0, .int .i64 0, .int .u64 0]) (v := .int .i64 E) rfl _ _ (W.heap.size + 1) 38 rfl rfl ((HZ2.out _).setRow _) leaf_row) rfl ⟨?_, below_setRow (HB2.out _) (Nat.le_succ _) _⟩
      rw [HFE.out]
      rfl
end Go.Proofs.Ytmnpakfihfjfiaa
