/- Contract: the reference's Turn. -/
import Derived.Test.YtnnajaomajgoeaaCheckF
namespace Go.Proofs.Ytnnajaomajgoeaa
open Go.RowKit

theorem xor_bit : ∀ j : Fin 8, ∀ x : Fin 256, (x.val ^^^ 2 ^ j.val) = if x.val / 2 ^ j.val % 2 = 1 then x.val - 2 ^ j.val else x.val + 2 ^ j.val := by decide +kernel
theorem xor_up {x j : Nat} (hx : x < 256) (hj : j < 8) (h : ¬ x / 2 ^ j % 2 = 1) : x + 2 ^ j = x ^^^ 2 ^ j := by
  have := xor_bit ⟨j, hj⟩ ⟨x, hx⟩
  simp only at this
  rw [this, if_neg h]
theorem xor_down {x j : Nat} (hx : x < 256) (hj : j < 8) (h : x / 2 ^ j % 2 = 1) : x - 2 ^ j = x ^^^ 2 ^ j := by
  have := xor_bit ⟨j, hj⟩ ⟨x, hx⟩
  simp only at this
  rw [this, if_pos h]
theorem empty_own (W : World) : (W.alloc (.cells #[] 5)).ownsRow W.heap.size 5 1 (.slice (some ⟨W.heap.size, 0, none⟩) 0 0) 0 [] :=
  World.ownsRow_made W #[] 0 (Nat.le_refl _) (by unfold maxLen; omega) rfl
theorem copy_below {W w2 : World} (hg : (W.alloc (.cells #[] 5)).grownBy w2 (some W.heap.size)) : Below W.heap.size W w2 :=
  ((Below.refl _ W).alloc (Nat.le_refl _) _).grown hg (by simp) (fun k hk => by cases hk; exact Nat.le_refl _)
theorem rturn_no (A : Option Addr) (l : List Nat) (c : Nat) (n : Int) (W : World) (hn : l.length ≤ 140737488355328) (hB : Bts W A l) (hw : -9223372036854775808 ≤ n ∧ n < 9223372036854775808) (ht : ¬ (0 ≤ n ∧ n / 8 < l.length)) :
    Calls Try.prog 32 #[.slice A l.length c, .int .i64 n] W (RetOwn l W) := by
  obtain ⟨i0, hi0, hz0, hz1, hz2⟩ := info_parts info5
  have HR := Lib.hid (reads_bts hB)
  clear hB
  obtain ⟨w0, w1⟩ := hw
  rcases (show n < 0 ∨ (0 ≤ n ∧ (l.length : Int) ≤ n / 8) by omega) with h | ⟨h, h2⟩
  · have e1 : decide (n < 0) = true := by simp; omega
    clear ht h
    go_enter Try.func32, Try.ntmps32
    go_wp2_with (at_builtin; refine wpList_append_any _ rfl (.tmp 8) (.tmp 9) _ rfl W.heap.size 5 i0 _ 1 1 Try.underlying30 hi0 hz0 hz1 hz2 rfl (by decide) _ 0 [] rfl (empty_own W) W.heap.size A l.length c (l.map bv) rfl (HR.out.alloc (Nat.le_refl _) _) (one_bv l) (by unfold maxLen; omega) (by omega) (by simp) ?_; intro v2 w2 hown hgrow hat; have HO := Lib.hid hown; have HG := Lib.hid hgrow; clear hown hgrow hat)
    go_ret
    have ho := HO.out
    rw [Nat.zero_add, List.nil_append] at ho
    exact ⟨v2, rfl, ho, copy_below HG.out⟩
  · have e1 : decide (n < 0) = false := by simp; omega
    have e2 : decide ((l.length : Int) ≤ n / 8) = true := by simp; omega
    clear ht
    go_enter Try.func32, Try.ntmps32
    go_wp2_with (at_builtin; refine wpList_append_any _ rfl (.tmp 8) (.tmp 9) _ rfl W.heap.size 5 i0 _ 1 1 Try.underlying30 hi0 hz0 hz1 hz2 rfl (by decide) _ 0 [] rfl (empty_own W) W.heap.size A l.length c (l.map bv) rfl (HR.out.alloc (Nat.le_refl _) _) (one_bv l) (by unfold maxLen; omega) (by omega) (by simp) ?_; intro v2 w2 hown hgrow hat; have HO := Lib.hid hown; have HG := Lib.hid hgrow; clear hown hgrow hat)
    go_ret
    have ho := HO.out
    rw [Nat.zero_add, List.nil_append] at ho
    exact ⟨v2, rfl, ho, copy_below HG.out⟩
set_option maxRecDepth 10000 in
theorem rturn_0_1 (A : Option Addr) (l : List Nat) (c : Nat) (k x : Nat) (n : Int) (W : World) (hn : l.length ≤ 140737488355328) (hR : Reads W W.heap.size 1 A l.length (l.map bv)) (n0 : 0 ≤ n) (n1 : n ≤ 9223372036854775807) (hq : n / 8 = (k : Int)) (hr : n % 8 = 0) (hk : k < l.length)
    (hcell : (l.map bv)[k]? = some (bv x)) (hx : x < 256) (hbit : x / 1 % 2 = 1) :
    Calls Try.prog 32 #[.slice A l.length c, .int .i64 n] W (RetOwn (l.set k (x ^^^ 1)) W) := by
  obtain ⟨i0, hi0, hz0, hz1, hz2⟩ := info_parts info5
  have HR := Lib.hid hR
  have HC := Lib.hid hcell
  have HX := Lib.hid (xor_down (x := x) (j := 0) hx (by decide) (by simp only [Nat.reducePow]; omega))
  have hle : 1 ≤ x := by omega
  have e1 : decide (n < 0) = false := by simp; omega
  have e2 : decide ((l.length : Int) ≤ (k : Int)) = false := by simp; omega
  have hb : ((x : Int) % 2 == 1) = true := by rw [beq_iff_eq]; omega
  clear hcell hbit hR
  go_enter Try.func32, Try.ntmps32
  go_wp2_with (at_builtin; refine wpList_append_any _ rfl (.tmp 8) (.tmp 9) _ rfl W.heap.size 5 i0 _ 1 1 Try.underlying30 hi0 hz0 hz1 hz2 rfl (by decide) _ 0 [] rfl (empty_own W) W.heap.size A l.length c (l.map bv) rfl (HR.out.alloc (Nat.le_refl _) _) (one_bv l) (by unfold maxLen; omega) (by omega) (by simp) ?_; intro v2 w2 hown hgrow hat; rw [Nat.zero_add, List.nil_append] at hown; obtain ⟨g, cap, hv, _, hlt⟩ := hown.form (by omega); subst hv; have hc : w2.cell? ⟨g, k, none⟩ = some (.int .u8 (x : Int)) := (hown.cellAt k (by omega)).trans HC.out; have hf := hown.frozenAt k; have HO := Lib.hid hown; have HG := Lib.hid hgrow; clear hown hgrow hat)
  refine wp_loop_rounds 8 ?_
  repeat (rw [rounds_succ]; go_wp2)
  go_ret
  refine ⟨_, rfl, ?_, (copy_below HG.out).setCell (HO.out.lt g rfl).1 _⟩
  have ho := (World.ownsRow.stored HO.out k (.int .u8 (((x - 1 : Nat)) : Int))).1
  have hX := HX.out
  simp only [Nat.reducePow] at hX
  rw [← hX, ← set_bv, List.length_set]
  rw [show ((x - 1 : Nat) : Int) = (x : Int) - 1 by omega] at ho ⊢
  exact ho
set_option maxRecDepth 10000 in
theorem rturn_0_0 (A : Option Addr) (l : List Nat) (c : Nat) (k x : Nat) (n : Int) (W : World) (hn : l.length ≤ 140737488355328) (hR : Reads W W.heap.size 1 A l.length (l.map bv)) (n0 : 0 ≤ n) (n1 : n ≤ 9223372036854775807) (hq : n / 8 = (k : Int)) (hr : n % 8 = 0) (hk : k < l.length)
    (hcell : (l.map bv)[k]? = some (bv x)) (hx : x < 256) (hbit : x / 1 % 2 = 0) :
    Calls Try.prog 32 #[.slice A l.length c, .int .i64 n] W (RetOwn (l.set k (x ^^^ 1)) W) := by
  obtain ⟨i0, hi0, hz0, hz1, hz2⟩ := info_parts info5
  have HR := Lib.hid hR
  have HC := Lib.hid hcell
  have HX := Lib.hid (xor_up (x := x) (j := 0) hx (by decide) (by simp only [Nat.reducePow]; omega))
  have hle : x + 1 < 256 := by omega
  have e1 : decide (n < 0) = false := by simp; omega
  have e2 : decide ((l.length : Int) ≤ (k : Int)) = false := by simp; omega
  have hb : ((x : Int) % 2 == 1) = false := by rw [beq_eq_false_iff_ne]; omega
  clear hcell hbit hR
  go_enter Try.func32, Try.ntmps32
  go_wp2_with (at_builtin; refine wpList_append_any _ rfl (.tmp 8) (.tmp 9) _ rfl W.heap.size 5 i0 _ 1 1 Try.underlying30 hi0 hz0 hz1 hz2 rfl (by decide) _ 0 [] rfl (empty_own W) W.heap.size A l.length c (l.map bv) rfl (HR.out.alloc (Nat.le_refl _) _) (one_bv l) (by unfold maxLen; omega) (by omega) (by simp) ?_; intro v2 w2 hown hgrow hat; rw [Nat.zero_add, List.nil_append] at hown; obtain ⟨g, cap, hv, _, hlt⟩ := hown.form (by omega); subst hv; have hc : w2.cell? ⟨g, k, none⟩ = some (.int .u8 (x : Int)) := (hown.cellAt k (by omega)).trans HC.out; have hf := hown.frozenAt k; have HO := Lib.hid hown; have HG := Lib.hid hgrow; clear hown hgrow hat)
  refine wp_loop_rounds 8 ?_
  repeat (rw [rounds_succ]; go_wp2)
  go_ret
  refine ⟨_, rfl, ?_, (copy_below HG.out).setCell (HO.out.lt g rfl).1 _⟩
  have ho := (World.ownsRow.stored HO.out k (.int .u8 (((x + 1 : Nat)) : Int))).1
  have hX := HX.out
  simp only [Nat.reducePow] at hX
  rw [← hX, ← set_bv, List.length_set]
  exact ho
set_option maxRecDepth 10000 in
theorem rturn_1_1 (A : Option Addr) (l : List Nat) (c : Nat) (k x : Nat) (n : Int) (W : World) (hn : l.length ≤ 140737488355328) (hR : Reads W W.heap.size 1 A l.length (l.map bv)) (n0 : 0 ≤ n) (n1 : n ≤ 9223372036854775807) (hq : n / 8 = (k : Int)) (hr : n % 8 = 1) (hk : k < l.length)
    (hcell : (l.map bv)[k]? = some (bv x)) (hx : x < 256) (hbit : x / 2 % 2 = 1) :
    Calls Try.prog 32 #[.slice A l.length c, .int .i64 n] W (RetOwn (l.set k (x ^^^ 2)) W) := by
  obtain ⟨i0, hi0, hz0, hz1, hz2⟩ := info_parts info5
  have HR := Lib.hid hR
  have HC := Lib.hid hcell
  have HX := Lib.hid (xor_down (x := x) (j := 1) hx (by decide) (by simp only [Nat.reducePow]; omega))
  have hle : 2 ≤ x := by omega
  have e1 : decide (n < 0) = false := by simp; omega
  have e2 : decide ((l.length : Int) ≤ (k : Int)) = false := by simp; omega
  have hb : ((x : Int) / 2 % 2 == 1) = true := by rw [beq_iff_eq]; omega
  clear hcell hbit hR
  go_enter Try.func32, Try.ntmps32
  go_wp2_with (at_builtin; refine wpList_append_any _ rfl (.tmp 8) (.tmp 9) _ rfl W.heap.size 5 i0 _ 1 1 Try.underlying30 hi0 hz0 hz1 hz2 rfl (by decide) _ 0 [] rfl (empty_own W) W.heap.size A l.length c (l.map bv) rfl (HR.out.alloc (Nat.le_refl _) _) (one_bv l) (by unfold maxLen; omega) (by omega) (by simp) ?_; intro v2 w2 hown hgrow hat; rw [Nat.zero_add, List.nil_append] at hown; obtain ⟨g, cap, hv, _, hlt⟩ := hown.form (by omega); subst hv; have hc : w2.cell? ⟨g, k, none⟩ = some (.int .u8 (x : Int)) := (hown.cellAt k (by omega)).trans HC.out; have hf := hown.frozenAt k; have HO := Lib.hid hown; have HG := Lib.hid hgrow; clear hown hgrow hat)
  refine wp_loop_rounds 8 ?_
  repeat (rw [rounds_succ]; go_wp2)
  go_ret
  refine ⟨_, rfl, ?_, (copy_below HG.out).setCell (HO.out.lt g rfl).1 _⟩
  have ho := (World.ownsRow.stored HO.out k (.int .u8 (((x - 2 : Nat)) : Int))).1
  have hX := HX.out
  simp only [Nat.reducePow] at hX
  rw [← hX, ← set_bv, List.length_set]
  rw [show ((x - 2 : Nat) : Int) = (x : Int) - 2 by omega] at ho ⊢
  exact ho
set_option maxRecDepth 10000 in
theorem rturn_1_0 (A : Option Addr) (l : List Nat) (c : Nat) (k x : Nat) (n : Int) (W : World) (hn : l.length ≤ 140737488355328) (hR : Reads W W.heap.size 1 A l.length (l.map bv)) (n0 : 0 ≤ n) (n1 : n ≤ 9223372036854775807) (hq : n / 8 = (k : Int)) (hr : n % 8 = 1) (hk : k < l.length)
    (hcell : (l.map bv)[k]? = some (bv x)) (hx : x < 256) (hbit : x / 2 % 2 = 0) :
    Calls Try.prog 32 #[.slice A l.length c, .int .i64 n] W (RetOwn (l.set k (x ^^^ 2)) W) := by
  obtain ⟨i0, hi0, hz0, hz1, hz2⟩ := info_parts info5
  have HR := Lib.hid hR
  have HC := Lib.hid hcell
  have HX := Lib.hid (xor_up (x := x) (j := 1) hx (by decide) (by simp only [Nat.reducePow]; omega))
  have hle : x + 2 < 256 := by omega
  have e1 : decide (n < 0) = false := by simp; omega
  have e2 : decide ((l.length : Int) ≤ (k : Int)) = false := by simp; omega
  have hb : ((x : Int) / 2 % 2 == 1) = false := by rw [beq_eq_false_iff_ne]; omega
  clear hcell hbit hR
  go_enter Try.func32, Try.ntmps32
  go_wp2_with (at_builtin; refine wpList_append_any _ rfl (.tmp 8) (.tmp 9) _ rfl W.heap.size 5 i0 _ 1 1 Try.underlying30 hi0 hz0 hz1 hz2 rfl (by decide) _ 0 [] rfl (empty_own W) W.heap.size A l.length c (l.map bv) rfl (HR.out.alloc (Nat.le_refl _) _) (one_bv l) (by unfold maxLen; omega) (by omega) (by simp) ?_; intro v2 w2 hown hgrow hat; rw [Nat.zero_add, List.nil_append] at hown; obtain ⟨g, cap, hv, _, hlt⟩ := hown.form (by omega); subst hv; have hc : w2.cell? ⟨g, k, none⟩ = some (.int .u8 (x : Int)) := (hown.cellAt k (by omega)).trans HC.out; have hf := hown.frozenAt k; have HO := Lib.hid hown; have HG := Lib.hid hgrow; clear hown hgrow hat)
  refine wp_loop_rounds 8 ?_
  repeat (rw [rounds_succ]; go_wp2)
  go_ret
  refine ⟨_, rfl, ?_, (copy_below HG.out).setCell (HO.out.lt g rfl).1 _⟩
  have ho := (World.ownsRow.stored HO.out k (.int .u8 (((x + 2 : Nat)) : Int))).1
  have hX := HX.out
  simp only [Nat.reducePow] at hX
  rw [← hX, ← set_bv, List.length_set]
  exact ho
set_option maxRecDepth 10000 in
theorem rturn_2_1 (A : Option Addr) (l : List Nat) (c : Nat) (k x : Nat) (n : Int) (W : World) (hn : l.length ≤ 140737488355328) (hR : Reads W W.heap.size 1 A l.length (l.map bv)) (n0 : 0 ≤ n) (n1 : n ≤ 9223372036854775807) (hq : n / 8 = (k : Int)) (hr : n % 8 = 2) (hk : k < l.length)
    (hcell : (l.map bv)[k]? = some (bv x)) (hx : x < 256) (hbit : x / 4 % 2 = 1) :
    Calls Try.prog 32 #[.slice A l.length c, .int .i64 n] W (RetOwn (l.set k (x ^^^ 4)) W) := by
  obtain ⟨i0, hi0, hz0, hz1, hz2⟩ := info_parts info5
  have HR := Lib.hid hR
  have HC := Lib.hid hcell
  have HX := Lib.hid (xor_down (x := x) (j := 2) hx (by decide) (by simp only [Nat.reducePow]; omega))
  have hle : 4 ≤ x := by omega
  have e1 : decide (n < 0) = false := by simp; omega
  have e2 : decide ((l.length : Int) ≤ (k : Int)) = false := by simp; omega
  have hb : ((x : Int) / 4 % 2 == 1) = true := by rw [beq_iff_eq]; omega
  clear hcell hbit hR
  go_enter Try.func32, Try.ntmps32
  go_wp2_with (at_builtin; refine wpList_append_any _ rfl (.tmp 8) (.tmp 9) _ rfl W.heap.size 5 i0 _ 1 1 Try.underlying30 hi0 hz0 hz1 hz2 rfl (by decide) _ 0 [] rfl (empty_own W) W.heap.size A l.length c (l.map bv) rfl (HR.out.alloc (Nat.le_refl _) _) (one_bv l) (by unfold maxLen; omega) (by omega) (by simp) ?_; intro v2 w2 hown hgrow hat; rw [Nat.zero_add, List.nil_append] at hown; obtain ⟨g, cap, hv, _, hlt⟩ := hown.form (by omega); subst hv; have hc : w2.cell? ⟨g, k, none⟩ = some (.int .u8 (x : Int)) := (hown.cellAt k (by omega)).trans HC.out; have hf := hown.frozenAt k; have HO := Lib.hid hown; have HG := Lib.hid hgrow; clear hown hgrow hat)
  refine wp_loop_rounds 8 ?_
  repeat (rw [rounds_succ]; go_wp2)
  go_ret
  refine ⟨_, rfl, ?_, (copy_below HG.out).setCell (HO.out.lt g rfl).1 _⟩
  have ho := (World.ownsRow.stored HO.out k (.int .u8 (((x - 4 : Nat)) : Int))).1
  have hX := HX.out
  simp only [Nat.reducePow] at hX
  rw [← hX, ← set_bv, List.length_set]
  rw [show ((x - 4 : Nat) : Int) = (x : Int) - 4 by omega] at ho ⊢
  exact ho
set_option maxRecDepth 10000 in
theorem rturn_2_0 (A : Option Addr) (l : List Nat) (c : Nat) (k x : Nat) (n : Int) (W : World) (hn : l.length ≤ 140737488355328) (hR : Reads W W.heap.size 1 A l.length (l.map bv)) (n0 : 0 ≤ n) (n1 : n ≤ 9223372036854775807) (hq : n / 8 = (k : Int)) (hr : n % 8 = 2) (hk : k < l.length)
    (hcell : (l.map bv)[k]? = some (bv x)) (hx : x < 256) (hbit : x / 4 % 2 = 0) :
    Calls Try.prog 32 #[.slice A l.length c, .int .i64 n] W (RetOwn (l.set k (x ^^^ 4)) W) := by
  obtain ⟨i0, hi0, hz0, hz1, hz2⟩ := info_parts info5
  have HR := Lib.hid hR
  have HC := Lib.hid hcell
  have HX := Lib.hid (xor_up (x := x) (j := 2) hx (by decide) (by simp only [Nat.reducePow]; omega))
  have hle : x + 4 < 256 := by omega
  have e1 : decide (n < 0) = false := by simp; omega
  have e2 : decide ((l.length : Int) ≤ (k : Int)) = false := by simp; omega
  have hb : ((x : Int) / 4 % 2 == 1) = false := by rw [beq_eq_false_iff_ne]; omega
  clear hcell hbit hR
  go_enter Try.func32, Try.ntmps32
  go_wp2_with (at_builtin; refine wpList_append_any _ rfl (.tmp 8) (.tmp 9) _ rfl W.heap.size 5 i0 _ 1 1 Try.underlying30 hi0 hz0 hz1 hz2 rfl (by decide) _ 0 [] rfl (empty_own W) W.heap.size A l.length c (l.map bv) rfl (HR.out.alloc (Nat.le_refl _) _) (one_bv l) (by unfold maxLen; omega) (by omega) (by simp) ?_; intro v2 w2 hown hgrow hat; rw [Nat.zero_add, List.nil_append] at hown; obtain ⟨g, cap, hv, _, hlt⟩ := hown.form (by omega); subst hv; have hc : w2.cell? ⟨g, k, none⟩ = some (.int .u8 (x : Int)) := (hown.cellAt k (by omega)).trans HC.out; have hf := hown.frozenAt k; have HO := Lib.hid hown; have HG := Lib.hid hgrow; clear hown hgrow hat)
  refine wp_loop_rounds 8 ?_
  repeat (rw [rounds_succ]; go_wp2)
  go_ret
  refine ⟨_, rfl, ?_, (copy_below HG.out).setCell (HO.out.lt g rfl).1 _⟩
  have ho := (World.ownsRow.stored HO.out k (.int .u8 (((x + 4 : Nat)) : Int))).1
  have hX := HX.out
  simp only [Nat.reducePow] at hX
  rw [← hX, ← set_bv, List.length_set]
  exact ho
set_option maxRecDepth 10000 in
theorem rturn_3_1 (A : Option Addr) (l : List Nat) (c : Nat) (k x : Nat) (n : Int) (W : World) (hn : l.length ≤ 140737488355328) (hR : Reads W W.heap.size 1 A l.length (l.map bv)) (n0 : 0 ≤ n) (n1 : n ≤ 9223372036854775807) (hq : n / 8 = (k : Int)) (hr : n % 8 = 3) (hk : k < l.length)
    (hcell : (l.map bv)[k]? = some (bv x)) (hx : x < 256) (hbit : x / 8 % 2 = 1) :
    Calls Try.prog 32 #[.slice A l.length c, .int .i64 n] W (RetOwn (l.set k (x ^^^ 8)) W) := by
  obtain ⟨i0, hi0, hz0, hz1, hz2⟩ := info_parts info5
  have HR := Lib.hid hR
  have HC := Lib.hid hcell
  have HX := Lib.hid (xor_down (x := x) (j := 3) hx (by decide) (by simp only [Nat.reducePow]; omega))
  have hle : 8 ≤ x := by omega
  have e1 : decide (n < 0) = false := by simp; omega
  have e2 : decide ((l.length : Int) ≤ (k : Int)) = false := by simp; omega
  have hb : ((x : Int) / 8 % 2 == 1) = true := by rw [beq_iff_eq]; omega
  clear hcell hbit hR
  go_enter Try.func32, Try.ntmps32
  go_wp2_with (at_builtin; refine wpList_append_any _ rfl (.tmp 8) (.tmp 9) _ rfl W.heap.size 5 i0 _ 1 1 Try.underlying30 hi0 hz0 hz1 hz2 rfl (by decide) _ 0 [] rfl (empty_own W) W.heap.size A l.length c (l.map bv) rfl (HR.out.alloc (Nat.le_refl _) _) (one_bv l) (by unfold maxLen; omega) (by omega) (by simp) ?_; intro v2 w2 hown hgrow hat; rw [Nat.zero_add, List.nil_append] at hown; obtain ⟨g, cap, hv, _, hlt⟩ := hown.form (by omega); subst hv; have hc : w2.cell? ⟨g, k, none⟩ = some (.int .u8 (x : Int)) := (hown.cellAt k (by omega)).trans HC.out; have hf := hown.frozenAt k; have HO := Lib.hid hown; have HG := Lib.hid hgrow; clear hown hgrow hat)
  refine wp_loop_rounds 8 ?_
  repeat (rw [rounds_succ]; go_wp2)
  go_ret
  refine ⟨_, rfl, ?_, (copy_below HG.out).setCell (HO.out.lt g rfl).1 _⟩
  have ho := (World.ownsRow.stored HO.out k (.int .u8 (((x - 8 : Nat)) : Int))).1
  have hX := HX.out
  simp only [Nat.reducePow] at hX
  rw [← hX, ← set_bv, List.length_set]
  rw [show ((x - 8 : Nat) : Int) = (x : Int) - 8 by omega] at ho ⊢
  exact ho
set_option maxRecDepth 10000 in
theorem rturn_3_0 (A : Option Addr) (l : List Nat) (c : Nat) (k x : Nat) (n : Int) (W : World) (hn : l.length ≤ 140737488355328) (hR : Reads W W.heap.size 1 A l.length (l.map bv)) (n0 : 0 ≤ n) (n1 : n ≤ 9223372036854775807) (hq : n / 8 = (k : Int)) (hr : n % 8 = 3) (hk : k < l.length)
    (hcell : (l.map bv)[k]? = some (bv x)) (hx : x < 256) (hbit : x / 8 % 2 = 0) :
    Calls Try.prog 32 #[.slice A l.length c, .int .i64 n] W (RetOwn (l.set k (x ^^^ 8)) W) := by
  obtain ⟨i0, hi0, hz0, hz1, hz2⟩ := info_parts info5
  have HR := Lib.hid hR
  have HC := Lib.hid hcell
  have HX := Lib.hid (xor_up (x := x) (j := 3) hx (by decide) (by simp only [Nat.reducePow]; omega))
  have hle : x + 8 < 256 := by omega
  have e1 : decide (n < 0) = false := by simp; omega
  have e2 : decide ((l.length : Int) ≤ (k : Int)) = false := by simp; omega
  have hb : ((x : Int) / 8 % 2 == 1) = false := by rw [beq_eq_false_iff_ne]; omega
  clear hcell hbit hR
  go_enter Try.func32, Try.ntmps32
  go_wp2_with (at_builtin; refine wpList_append_any _ rfl (.tmp 8) (.tmp 9) _ rfl W.heap.size 5 i0 _ 1 1 Try.underlying30 hi0 hz0 hz1 hz2 rfl (by decide) _ 0 [] rfl (empty_own W) W.heap.size A l.length c (l.map bv) rfl (HR.out.alloc (Nat.le_refl _) _) (one_bv l) (by unfold maxLen; omega) (by omega) (by simp) ?_; intro v2 w2 hown hgrow hat; rw [Nat.zero_add, List.nil_append] at hown; obtain ⟨g, cap, hv, _, hlt⟩ := hown.form (by omega); subst hv; have hc : w2.cell? ⟨g, k, none⟩ = some (.int .u8 (x : Int)) := (hown.cellAt k (by omega)).trans HC.out; have hf := hown.frozenAt k; have HO := Lib.hid hown; have HG := Lib.hid hgrow; clear hown hgrow hat)
  refine wp_loop_rounds 8 ?_
  repeat (rw [rounds_succ]; go_wp2)
  go_ret
  refine ⟨_, rfl, ?_, (copy_below HG.out).setCell (HO.out.lt g rfl).1 _⟩
  have ho := (World.ownsRow.stored HO.out k (.int .u8 (((x + 8 : Nat)) : Int))).1
  have hX := HX.out
  simp only [Nat.reducePow] at hX
  rw [← hX, ← set_bv, List.length_set]
  exact ho
set_option maxRecDepth 10000 in
theorem rturn_4_1 (A : Option Addr) (l : List Nat) (c : Nat) (k x : Nat) (n : Int) (W : World) (hn : l.length ≤ 140737488355328) (hR : Reads W W.heap.size 1 A l.length (l.map bv)) (n0 : 0 ≤ n) (n1 : n ≤ 9223372036854775807) (hq : n / 8 = (k : Int)) (hr : n % 8 = 4) (hk : k < l.length)
    (hcell : (l.map bv)[k]? = some (bv x)) (hx : x < 256) (hbit : x / 16 % 2 = 1) :
    Calls Try.prog 32 #[.slice A l.length c, .int .i64 n] W (RetOwn (l.set k (x ^^^ 16)) W) := by
  obtain ⟨i0, hi0, hz0, hz1, hz2⟩ := info_parts info5
  have HR := Lib.hid hR
  have HC := Lib.hid hcell
  have HX := Lib.hid (xor_down (x := x) (j := 4) hx (by decide) (by simp only [Nat.reducePow]; omega))
  have hle : 16 ≤ x := by omega
  have e1 : decide (n < 0) = false := by simp; omega
  have e2 : decide ((l.length : Int) ≤ (k : Int)) = false := by simp; omega
  have hb : ((x : Int) / 16 % 2 == 1) = true := by rw [beq_iff_eq]; omega
  clear hcell hbit hR
  go_enter Try.func32, Try.ntmps32
  go_wp2_with (at_builtin; refine wpList_append_any _ rfl (.tmp 8) (.tmp 9) _ rfl W.heap.size 5 i0 _ 1 1 Try.underlying30 hi0 hz0 hz1 hz2 rfl (by decide) _ 0 [] rfl (empty_own W) W.heap.size A l.length c (l.map bv) rfl (HR.out.alloc (Nat.le_refl _) _) (one_bv l) (by unfold maxLen; omega) (by omega) (by simp) ?_; intro v2 w2 hown hgrow hat; rw [Nat.zero_add, List.nil_append] at hown; obtain ⟨g, cap, hv, _, hlt⟩ := hown.form (by omega); subst hv; have hc : w2.cell? ⟨g, k, none⟩ = some (.int .u8 (x : Int)) := (hown.cellAt k (by omega)).trans HC.out; have hf := hown.frozenAt k; have HO := Lib.hid hown; have HG := Lib.hid hgrow; clear hown hgrow hat)
  refine wp_loop_rounds 8 ?_
  repeat (rw [rounds_succ]; go_wp2)
  go_ret
  refine ⟨_, rfl, ?_, (copy_below HG.out).setCell (HO.out.lt g rfl).1 _⟩
  have ho := (World.ownsRow.stored HO.out k (.int .u8 (((x - 16 : Nat)) : Int))).1
  have hX := HX.out
  simp only [Nat.reducePow] at hX
  rw [← hX, ← set_bv, List.length_set]
  rw [show ((x - 16 : Nat) : Int) = (x : Int) - 16 by omega] at ho ⊢
  exact ho
set_option maxRecDepth 10000 in
theorem rturn_4_0 (A : Option Addr) (l : List Nat) (c : Nat) (k x : Nat) (n : Int) (W : World) (hn : l.length ≤ 140737488355328) (hR : Reads W W.heap.size 1 A l.length (l.map bv)) (n0 : 0 ≤ n) (n1 : n ≤ 9223372036854775807) (hq : n / 8 = (k : Int)) (hr : n % 8 = 4) (hk : k < l.length)
    (hcell : (l.map bv)[k]? = some (bv x)) (hx : x < 256) (hbit : x / 16 % 2 = 0) :
    Calls Try.prog 32 #[.slice A l.length c, .int .i64 n] W (RetOwn (l.set k (x ^^^ 16)) W) := by
  obtain ⟨i0, hi0, hz0, hz1, hz2⟩ := info_parts info5
  have HR := Lib.hid hR
  have HC := Lib.hid hcell
  have HX := Lib.hid (xor_up (x := x) (j := 4) hx (by decide) (by simp only [Nat.reducePow]; omega))
  have hle : x + 16 < 256 := by omega
  have e1 : decide (n < 0) = false := by simp; omega
  have e2 : decide ((l.length : Int) ≤ (k : Int)) = false := by simp; omega
  have hb : ((x : Int) / 16 % 2 == 1) = false := by rw [beq_eq_false_iff_ne]; omega
  clear hcell hbit hR
  go_enter Try.func32, Try.ntmps32
  go_wp2_with (at_builtin; refine wpList_append_any _ rfl (.tmp 8) (.tmp 9) _ rfl W.heap.size 5 i0 _ 1 1 Try.underlying30 hi0 hz0 hz1 hz2 rfl (by decide) _ 0 [] rfl (empty_own W) W.heap.size A l.length c (l.map bv) rfl (HR.out.alloc (Nat.le_refl _) _) (one_bv l) (by unfold maxLen; omega) (by omega) (by simp) ?_; intro v2 w2 hown hgrow hat; rw [Nat.zero_add, List.nil_append] at hown; obtain ⟨g, cap, hv, _, hlt⟩ := hown.form (by omega); subst hv; have hc : w2.cell? ⟨g, k, none⟩ = some (.int .u8 (x : Int)) := (hown.cellAt k (by omega)).trans HC.out; have hf := hown.frozenAt k; have HO := Lib.hid hown; have HG := Lib.hid hgrow; clear hown hgrow hat)
  refine wp_loop_rounds 8 ?_
  repeat (rw [rounds_succ]; go_wp2)
  go_ret
  refine ⟨_, rfl, ?_, (copy_below HG.out).setCell (HO.out.lt g rfl).1 _⟩
  have ho := (World.ownsRow.stored HO.out k (.int .u8 (((x + 16 : Nat)) : Int))).1
  have hX := HX.out
  simp only [Nat.reducePow] at hX
  rw [← hX, ← set_bv, List.length_set]
  exact ho
set_option maxRecDepth 10000 in
theorem rturn_5_1 (A : Option Addr) (l : List Nat) (c : Nat) (k x : Nat) (n : Int) (W : World) (hn : l.length ≤ 140737488355328) (hR : Reads W W.heap.size 1 A l.length (l.map bv)) (n0 : 0 ≤ n) (n1 : n ≤ 9223372036854775807) (hq : n / 8 = (k : Int)) (hr : n % 8 = 5) (hk : k < l.length)
    (hcell : (l.map bv)[k]? = some (bv x)) (hx : x < 256) (hbit : x / 32 % 2 = 1) :
    Calls Try.prog 32 #[.slice A l.length c, .int .i64 n] W (RetOwn (l.set k (x ^^^ 32)) W) := by
  obtain ⟨i0, hi0, hz0, hz1, hz2⟩ := info_parts info5
  have HR := Lib.hid hR
  have HC := Lib.hid hcell
  have HX := Lib.hid (xor_down (x := x) (j := 5) hx (by decide) (by simp only [Nat.reducePow]; omega))
  have hle : 32 ≤ x := by omega
  have e1 : decide (n < 0) = false := by simp; omega
  have e2 : decide ((l.length : Int) ≤ (k : Int)) = false := by simp; omega
  have hb : ((x : Int) / 32 % 2 == 1) = true := by rw [beq_iff_eq]; omega
  clear hcell hbit hR
  go_enter Try.func32, Try.ntmps32
  go_wp2_with (at_builtin; refine wpList_append_any _ rfl (.tmp 8) (.tmp 9) _ rfl W.heap.size 5 i0 _ 1 1 Try.underlying30 hi0 hz0 hz1 hz2 rfl (by decide) _ 0 [] rfl (empty_own W) W.heap.size A l.length c (l.map bv) rfl (HR.out.alloc (Nat.le_refl _) _) (one_bv l) (by unfold maxLen; omega) (by omega) (by simp) ?_; intro v2 w2 hown hgrow hat; rw [Nat.zero_add, List.nil_append] at hown; obtain ⟨g, cap, hv, _, hlt⟩ := hown.form (by omega); subst hv; have hc : w2.cell? ⟨g, k, none⟩ = some (.int .u8 (x : Int)) := (hown.cellAt k (by omega)).trans HC.out; have hf := hown.frozenAt k; have HO := Lib.hid hown; have HG := Lib.hid hgrow; clear hown hgrow hat)
  refine wp_loop_rounds 8 ?_
  repeat (rw [rounds_succ]; go_wp2)
  go_ret
  refine ⟨_, rfl, ?_, (copy_below HG.out).setCell (HO.out.lt g rfl).1 _⟩
  have ho := (World.ownsRow.stored HO.out k (.int .u8 (((x - 32 : Nat)) : Int))).1
  have hX := HX.out
  simp only [Nat.reducePow] at hX
  rw [← hX, ← set_bv, List.length_set]
  rw [show ((x - 32 : Nat) : Int) = (x : Int) - 32 by omega] at ho ⊢
  exact ho
set_option maxRecDepth 10000 in
theorem rturn_5_0 (A : Option Addr) (l : List Nat) (c : Nat) (k x : Nat) (n : Int) (W : World) (hn : l.length ≤ 140737488355328) (hR : Reads W W.heap.size 1 A l.length (l.map bv)) (n0 : 0 ≤ n) (n1 : n ≤ 9223372036854775807) (hq : n / 8 = (k : Int)) (hr : n % 8 = 5) (hk : k < l.length)
    (hcell : (l.map bv)[k]? = some (bv x)) (hx : x < 256) (hbit : x / 32 % 2 = 0) :
    Calls Try.prog 32 #[.slice A l.length c, .int .i64 n] W (RetOwn (l.set k (x ^^^ 32)) W) := by
  obtain ⟨i0, hi0, hz0, hz1, hz2⟩ := info_parts info5
  have HR := Lib.hid hR
  have HC := Lib.hid hcell
  have HX := Lib.hid (xor_up (x := x) (j := 5) hx (by decide) (by simp only [Nat.reducePow]; omega))
  have hle : x + 32 < 256 := by omega
  have e1 : decide (n < 0) = false := by simp; omega
  have e2 : decide ((l.length : Int) ≤ (k : Int)) = false := by simp; omega
  have hb : ((x : Int) / 32 % 2 == 1) = false := by rw [beq_eq_false_iff_ne]; omega
  clear hcell hbit hR
  go_enter Try.func32, Try.ntmps32
  go_wp2_with (at_builtin; refine wpList_append_any _ rfl (.tmp 8) (.tmp 9) _ rfl W.heap.size 5 i0 _ 1 1 Try.underlying30 hi0 hz0 hz1 hz2 rfl (by decide) _ 0 [] rfl (empty_own W) W.heap.size A l.length c (l.map bv) rfl (HR.out.alloc (Nat.le_refl _) _) (one_bv l) (by unfold maxLen; omega) (by omega) (by simp) ?_; intro v2 w2 hown hgrow hat; rw [Nat.zero_add, List.nil_append] at hown; obtain ⟨g, cap, hv, _, hlt⟩ := hown.form (by omega); subst hv; have hc : w2.cell? ⟨g, k, none⟩ = some (.int .u8 (x : Int)) := (hown.cellAt k (by omega)).trans HC.out; have hf := hown.frozenAt k; have HO := Lib.hid hown; have HG := Lib.hid hgrow; clear hown hgrow hat)
  refine wp_loop_rounds 8 ?_
  repeat (rw [rounds_succ]; go_wp2)
  go_ret
  refine ⟨_, rfl, ?_, (copy_below HG.out).setCell (HO.out.lt g rfl).1 _⟩
  have ho := (World.ownsRow.stored HO.out k (.int .u8 (((x + 32 : Nat)) : Int))).1
  have hX := HX.out
  simp only [Nat.reducePow] at hX
  rw [← hX, ← set_bv, List.length_set]
  exact ho
set_option maxRecDepth 10000 in
theorem rturn_6_1 (A : Option Addr) (l : List Nat) (c : Nat) (k x : Nat) (n : Int) (W : World) (hn : l.length ≤ 140737488355328) (hR : Reads W W.heap.size 1 A l.length (l.map bv)) (n0 : 0 ≤ n) (n1 : n ≤ 9223372036854775807) (hq : n / 8 = (k : Int)) (hr : n % 8 = 6) (hk : k < l.length)
    (hcell : (l.map bv)[k]? = some (bv x)) (hx : x < 256) (hbit : x / 64 % 2 = 1) :
    Calls Try.prog 32 #[.slice A l.length c, .int .i64 n] W (RetOwn (l.set k (x ^^^ 64)) W) := by
  obtain ⟨i0, hi0, hz0, hz1, hz2⟩ := info_parts info5
  have HR := Lib.hid hR
  have HC := Lib.hid hcell
  have HX := Lib.hid (xor_down (x := x) (j := 6) hx (by decide) (by simp only [Nat.reducePow]; omega))
  have hle : 64 ≤ x := by omega
  have e1 : decide (n < 0) = false := by simp; omega
  have e2 : decide ((l.length : Int) ≤ (k : Int)) = false := by simp; omega
  have hb : ((x : Int) / 64 % 2 == 1) = true := by rw [beq_iff_eq]; omega
  clear hcell hbit hR
  go_enter Try.func32, Try.ntmps32
  go_wp2_with (at_builtin; refine wpList_append_any _ rfl (.tmp 8) (.tmp 9) _ rfl W.heap.size 5 i0 _ 1 1 Try.underlying30 hi0 hz0 hz1 hz2 rfl (by decide) _ 0 [] rfl (empty_own W) W.heap.size A l.length c (l.map bv) rfl (HR.out.alloc (Nat.le_refl _) _) (one_bv l) (by unfold maxLen; omega) (by omega) (by simp) ?_; intro v2 w2 hown hgrow hat; rw [Nat.zero_add, List.nil_append] at hown; obtain ⟨g, cap, hv, _, hlt⟩ := hown.form (by omega); subst hv; have hc : w2.cell? ⟨g, k, none⟩ = some (.int .u8 (x : Int)) := (hown.cellAt k (by omega)).trans HC.out; have hf := hown.frozenAt k; have HO := Lib.hid hown; have HG := Lib.hid hgrow; clear hown hgrow hat)
  refine wp_loop_rounds 8 ?_
  repeat (rw [rounds_succ]; go_wp2)
  go_ret
  refine ⟨_, rfl, ?_, (copy_below HG.out).setCell (HO.out.lt g rfl).1 _⟩
  have ho := (World.ownsRow.stored HO.out k (.int .u8 (((x - 64 : Nat)) : Int))).1
  have hX := HX.out
  simp only [Nat.reducePow] at hX
  rw [← hX, ← set_bv, List.length_set]
  rw [show ((x - 64 : Nat) : Int) = (x : Int) - 64 by omega] at ho ⊢
  exact ho
set_option maxRecDepth 10000 in
theorem rturn_6_0 (A : Option Addr) (l : List Nat) (c : Nat) (k x : Nat) (n : Int) (W : World) (hn : l.length ≤ 140737488355328) (hR : Reads W W.heap.size 1 A l.length (l.map bv)) (n0 : 0 ≤ n) (n1 : n ≤ 9223372036854775807) (hq : n / 8 = (k : Int)) (hr : n % 8 = 6) (hk : k < l.length)
    (hcell : (l.map bv)[k]? = some (bv x)) (hx : x < 256) (hbit : x / 64 % 2 = 0) :
    Calls Try.prog 32 #[.slice A l.length c, .int .i64 n] W (RetOwn (l.set k (x ^^^ 64)) W) := by
  obtain ⟨i0, hi0, hz0, hz1, hz2⟩ := info_parts info5
  have HR := Lib.hid hR
  have HC := Lib.hid hcell
  have HX := Lib.hid (xor_up (x := x) (j := 6) hx (by decide) (by simp only [Nat.reducePow]; omega))
  have hle : x + 64 < 256 := by omega
  have e1 : decide (n < 0) = false := by simp; omega
  have e2 : decide ((l.length : Int) ≤ (k : Int)) = false := by simp; omega
  have hb : ((x : Int) / 64 % 2 == 1) = false := by rw [beq_eq_false_iff_ne]; omega
  clear hcell hbit hR
  go_enter Try.func32, Try.ntmps32
  go_wp2_with (at_builtin; refine wpList_append_any _ rfl (.tmp 8) (.tmp 9) _ rfl W.heap.size 5 i0 _ 1 1 Try.underlying30 hi0 hz0 hz1 hz2 rfl (by decide) _ 0 [] rfl (empty_own W) W.heap.size A l.length c (l.map bv) rfl (HR.out.alloc (Nat.le_refl _) _) (one_bv l) (by unfold maxLen; omega) (by omega) (by simp) ?_; intro v2 w2 hown hgrow hat; rw [Nat.zero_add, List.nil_append] at hown; obtain ⟨g, cap, hv, _, hlt⟩ := hown.form (by omega); subst hv; have hc : w2.cell? ⟨g, k, none⟩ = some (.int .u8 (x : Int)) := (hown.cellAt k (by omega)).trans HC.out; have hf := hown.frozenAt k; have HO := Lib.hid hown; have HG := Lib.hid hgrow; clear hown hgrow hat)
  refine wp_loop_rounds 8 ?_
  repeat (rw [rounds_succ]; go_wp2)
  go_ret
  refine ⟨_, rfl, ?_, (copy_below HG.out).setCell (HO.out.lt g rfl).1 _⟩
  have ho := (World.ownsRow.stored HO.out k (.int .u8 (((x + 64 : Nat)) : Int))).1
  have hX := HX.out
  simp only [Nat.reducePow] at hX
  rw [← hX, ← set_bv, List.length_set]
  exact ho
set_option maxRecDepth 10000 in
theorem rturn_7_1 (A : Option Addr) (l : List Nat) (c : Nat) (k x : Nat) (n : Int) (W : World) (hn : l.length ≤ 140737488355328) (hR : Reads W W.heap.size 1 A l.length (l.map bv)) (n0 : 0 ≤ n) (n1 : n ≤ 9223372036854775807) (hq : n / 8 = (k : Int)) (hr : n % 8 = 7) (hk : k < l.length)
    (hcell : (l.map bv)[k]? = some (bv x)) (hx : x < 256) (hbit : x / 128 % 2 = 1) :
    Calls Try.prog 32 #[.slice A l.length c, .int .i64 n] W (RetOwn (l.set k (x ^^^ 128)) W) := by
  obtain ⟨i0, hi0, hz0, hz1, hz2⟩ := info_parts info5
  have HR := Lib.hid hR
  have HC := Lib.hid hcell
  have HX := Lib.hid (xor_down (x := x) (j := 7) hx (by decide) (by simp only [Nat.reducePow]; omega))
  have hle : 128 ≤ x := by omega
  have e1 : decide (n < 0) = false := by simp; omega
  have e2 : decide ((l.length : Int) ≤ (k : Int)) = false := by simp; omega
  have hb : ((x : Int) / 128 % 2 == 1) = true := by rw [beq_iff_eq]; omega
  clear hcell hbit hR
  go_enter Try.func32, Try.ntmps32
  go_wp2_with (at_builtin; refine wpList_append_any _ rfl (.tmp 8) (.tmp 9) _ rfl W.heap.size 5 i0 _ 1 1 Try.underlying30 hi0 hz0 hz1 hz2 rfl (by decide) _ 0 [] rfl (empty_own W) W.heap.size A l.length c (l.map bv) rfl (HR.out.alloc (Nat.le_refl _) _) (one_bv l) (by unfold maxLen; omega) (by omega) (by simp) ?_; intro v2 w2 hown hgrow hat; rw [Nat.zero_add, List.nil_append] at hown; obtain ⟨g, cap, hv, _, hlt⟩ := hown.form (by omega); subst hv; have hc : w2.cell? ⟨g, k, none⟩ = some (.int .u8 (x : Int)) := (hown.cellAt k (by omega)).trans HC.out; have hf := hown.frozenAt k; have HO := Lib.hid hown; have HG := Lib.hid hgrow; clear hown hgrow hat)
  refine wp_loop_rounds 8 ?_
  repeat (rw [rounds_succ]; go_wp2)
  go_ret
  refine ⟨_, rfl, ?_, (copy_below HG.out).setCell (HO.out.lt g rfl).1 _⟩
  have ho := (World.ownsRow.stored HO.out k (.int .u8 (((x - 128 : Nat)) : Int))).1
  have hX := HX.out
  simp only [Nat.reducePow] at hX
  rw [← hX, ← set_bv, List.length_set]
  rw [show ((x - 128 : Nat) : Int) = (x : Int) - 128 by omega] at ho ⊢
  exact ho
set_option maxRecDepth 10000 in
theorem rturn_7_0 (A : Option Addr) (l : List Nat) (c : Nat) (k x : Nat) (n : Int) (W : World) (hn : l.length ≤ 140737488355328) (hR : Reads W W.heap.size 1 A l.length (l.map bv)) (n0 : 0 ≤ n) (n1 : n ≤ 9223372036854775807) (hq : n / 8 = (k : Int)) (hr : n % 8 = 7) (hk : k < l.length)
    (hcell : (l.map bv)[k]? = some (bv x)) (hx : x < 256) (hbit : x / 128 % 2 = 0) :
    Calls Try.prog 32 #[.slice A l.length c, .int .i64 n] W (RetOwn (l.set k (x ^^^ 128)) W) := by
  obtain ⟨i0, hi0, hz0, hz1, hz2⟩ := info_parts info5
  have HR := Lib.hid hR
  have HC := Lib.hid hcell
  have HX := Lib.hid (xor_up (x := x) (j := 7) hx (by decide) (by simp only [Nat.reducePow]; omega))
  have hle : x + 128 < 256 := by omega
  have e1 : decide (n < 0) = false := by simp; omega
  have e2 : decide ((l.length : Int) ≤ (k : Int)) = false := by simp; omega
  have hb : ((x : Int) / 128 % 2 == 1) = false := by rw [beq_eq_false_iff_ne]; omega
  clear hcell hbit hR
  go_enter Try.func32, Try.ntmps32
  go_wp2_with (at_builtin; refine wpList_append_any _ rfl (.tmp 8) (.tmp 9) _ rfl W.heap.size 5 i0 _ 1 1 Try.underlying30 hi0 hz0 hz1 hz2 rfl (by decide) _ 0 [] rfl (empty_own W) W.heap.size A l.length c (l.map bv) rfl (HR.out.alloc (Nat.le_refl _) _) (one_bv l) (by unfold maxLen; omega) (by omega) (by simp) ?_; intro v2 w2 hown hgrow hat; rw [Nat.zero_add, List.nil_append] at hown; obtain ⟨g, cap, hv, _, hlt⟩ := hown.form (by omega); subst hv; have hc : w2.cell? ⟨g, k, none⟩ = some (.int .u8 (x : Int)) := (hown.cellAt k (by omega)).trans HC.out; have hf := hown.frozenAt k; have HO := Lib.hid hown; have HG := Lib.hid hgrow; clear hown hgrow hat)
  refine wp_loop_rounds 8 ?_
  repeat (rw [rounds_succ]; go_wp2)
  go_ret
  refine ⟨_, rfl, ?_, (copy_below HG.out).setCell (HO.out.lt g rfl).1 _⟩
  have ho := (World.ownsRow.stored HO.out k (.int .u8 (((x + 128 : Nat)) : Int))).1
  have hX := HX.out
  simp only [Nat.reducePow] at hX
  rw [← hX, ← set_bv, List.length_set]
  exact ho
theorem rturn_any (A : Option Addr) (l : List Nat) (c : Nat) (n : Int) (W : World) (hn : l.length ≤ 140737488355328) (hB : Bts W A l) (hw : -9223372036854775808 ≤ n ∧ n < 9223372036854775808) :
    Calls Try.prog 32 #[.slice A l.length c, .int .i64 n] W (RetOwn (turnL l n) W) := by
  by_cases ht : 0 ≤ n ∧ n / 8 < l.length
  · obtain ⟨h0, h1⟩ := ht
    obtain ⟨k, hk⟩ := Int.eq_ofNat_of_zero_le (show 0 ≤ n / 8 by omega)
    obtain ⟨j, hj⟩ := Int.eq_ofNat_of_zero_le (show 0 ≤ n % 8 by omega)
    have hj8 : j < 8 := by omega
    have hkl : k < l.length := by omega
    have hcell : (l.map bv)[k]? = some (bv (l.getD k 0)) := by
      rw [List.getElem?_map, List.getD_eq_getElem?_getD, List.getElem?_eq_getElem hkl]; rfl
    have hx := hB.1 k
    have hR := reads_bts hB
    unfold turnL
    rw [if_pos ⟨h0, h1⟩, hk, hj]
    simp only [Int.toNat_natCast]
    generalize l.getD k 0 = x at hx hcell ⊢
    rcases (show j = 0 ∨ j = 1 ∨ j = 2 ∨ j = 3 ∨ j = 4 ∨ j = 5 ∨ j = 6 ∨ j = 7 by omega) with rfl | rfl | rfl | rfl | rfl | rfl | rfl | rfl
    · rcases (show x / 1 % 2 = 1 ∨ x / 1 % 2 = 0 by omega) with h | h
      · exact rturn_0_1 A l c k x n W hn hR h0 (by omega) hk hj hkl hcell hx h
      · exact rturn_0_0 A l c k x n W hn hR h0 (by omega) hk hj hkl hcell hx h
    · rcases (show x / 2 % 2 = 1 ∨ x / 2 % 2 = 0 by omega) with h | h
      · exact rturn_1_1 A l c k x n W hn hR h0 (by omega) hk hj hkl hcell hx h
      · exact rturn_1_0 A l c k x n W hn hR h0 (by omega) hk hj hkl hcell hx h
    · rcases (show x / 4 % 2 = 1 ∨ x / 4 % 2 = 0 by omega) with h | h
      · exact rturn_2_1 A l c k x n W hn hR h0 (by omega) hk hj hkl hcell hx h
      · exact rturn_2_0 A l c k x n W hn hR h0 (by omega) hk hj hkl hcell hx h
    · rcases (show x / 8 % 2 = 1 ∨ x / 8 % 2 = 0 by omega) with h | h
      · exact rturn_3_1 A l c k x n W hn hR h0 (by omega) hk hj hkl hcell hx h
      · exact rturn_3_0 A l c k x n W hn hR h0 (by omega) hk hj hkl hcell hx h
    · rcases (show x / 16 % 2 = 1 ∨ x / 16 % 2 = 0 by omega) with h | h
      · exact rturn_4_1 A l c k x n W hn hR h0 (by omega) hk hj hkl hcell hx h
      · exact rturn_4_0 A l c k x n W hn hR h0 (by omega) hk hj hkl hcell hx h
    · rcases (show x / 32 % 2 = 1 ∨ x / 32 % 2 = 0 by omega) with h | h
      · exact rturn_5_1 A l c k x n W hn hR h0 (by omega) hk hj hkl hcell hx h
      · exact rturn_5_0 A l c k x n W hn hR h0 (by omega) hk hj hkl hcell hx h
    · rcases (show x / 64 % 2 = 1 ∨ x / 64 % 2 = 0 by omega) with h | h
      · exact rturn_6_1 A l c k x n W hn hR h0 (by omega) hk hj hkl hcell hx h
      · exact rturn_6_0 A l c k x n W hn hR h0 (by omega) hk hj hkl hcell hx h
    · rcases (show x / 128 % 2 = 1 ∨ x / 128 % 2 = 0 by omega) with h | h
      · exact rturn_7_1 A l c k x n W hn hR h0 (by omega) hk hj hkl hcell hx h
      · exact rturn_7_0 A l c k x n W hn hR h0 (by omega) hk hj hkl hcell hx h
  · unfold turnL
    rw [if_neg ht]
    exact rturn_no A l c n W hn hB hw ht
end Go.Proofs.Ytnnajaomajgoeaa
