/- Entries and pages: the model; page, has, matches; the reference's Page. -/
import Derived.Test.YtnjoobggcejgkaaPteB
import Derived.Test.YtnjoobggcejgkaaSep
import Derived.Test.YtnjoobggcejgkaaReads
namespace Go.Proofs.Ytnjoobggcejgkaa
open Go.RowKit

structure Lf where
  (v r w x u g a d : Bool)
  (rsw : Int)
  (ppn : Nat)
  (lev : Int)
  (pos : Nat)
structure En where
  (full : Bool)
  (asid : Int)
  (page : Nat)
  (lf : Lf)
def Lf.vs (l : Lf) : List Value := [.bool l.v, .bool l.r, .bool l.w, .bool l.x, .bool l.u, .bool l.g, .bool l.a, .bool l.d, .int .i64 l.rsw, .int .u64 l.ppn, .int .i64 l.lev, .int .u64 l.pos]
def Lf.val (l : Lf) : Value := .agg #[.bool l.v, .bool l.r, .bool l.w, .bool l.x, .bool l.u, .bool l.g, .bool l.a, .bool l.d, .int .i64 l.rsw, .int .u64 l.ppn, .int .i64 l.lev, .int .u64 l.pos]
def En.vs (e : En) : List Value := [.bool e.full, .int .i64 e.asid, .int .u64 e.page, .bool e.lf.v, .bool e.lf.r, .bool e.lf.w, .bool e.lf.x, .bool e.lf.u, .bool e.lf.g, .bool e.lf.a, .bool e.lf.d, .int .i64 e.lf.rsw, .int .u64 e.lf.ppn, .int .i64 e.lf.lev, .int .u64 e.lf.pos]
def En.val (e : En) : Value := .agg #[.bool e.full, .int .i64 e.asid, .int .u64 e.page, .bool e.lf.v, .bool e.lf.r, .bool e.lf.w, .bool e.lf.x, .bool e.lf.u, .bool e.lf.g, .bool e.lf.a, .bool e.lf.d, .int .i64 e.lf.rsw, .int .u64 e.lf.ppn, .int .i64 e.lf.lev, .int .u64 e.lf.pos]
def lf0 : Lf := ⟨false, false, false, false, false, false, false, false, 0, 0, 0, 0⟩
def en0 : En := ⟨false, 0, 0, lf0⟩
def levOK (n : Int) : Bool := decide (0 ≤ n) && decide (n ≤ 2)
/-- A page's number of an address, at a level. -/
def pgN (va : Nat) (lev : Int) : Nat := vpnV va / 2 ^ (9 * lev.toNat)
theorem vpnV_lt (va : Nat) : vpnV va < 134217728 := Nat.mod_lt _ (by decide)
theorem lev_cases {n : Int} (h : levOK n = true) : n = 0 ∨ n = 1 ∨ n = 2 := by simp [levOK] at h; omega
theorem pgN0 (va : Nat) : pgN va 0 = vpnV va := by simp [pgN]
theorem pgN1 (va : Nat) : pgN va 1 = vpnV va / 512 := by simp [pgN]
theorem pgN2 (va : Nat) : pgN va 2 = vpnV va / 262144 := by simp [pgN]
theorem pgN_lt (va : Nat) (lev : Int) : pgN va lev < 134217728 := Nat.lt_of_le_of_lt (Nat.div_le_self _ _) (vpnV_lt va)
theorem page_any (va : Nat) (lev : Int) (W : World) (hv : va < 18446744073709551616) (hl : levOK lev = true) :
    Calls Try.prog 19 #[.int .u64 va, .int .i64 lev] W fun e w' => e = .returned (.int .u64 ((pgN va lev : Nat) : Int)) ∧ W = w' := by
  have H0 := Lib.hid (pgN0 va)
  have H1 := Lib.hid (pgN1 va)
  have H2 := Lib.hid (pgN2 va)
  rcases lev_cases hl with rfl | rfl | rfl
  · go_enter Try.func19, Try.ntmps19
    go_wp2_with fail
    refine (vpn_any va _ hv).mono ?_
    rintro e w ⟨rfl, rfl⟩
    go_wp2
    go_ret
    exact ⟨by rw [H0.out]; simp, rfl⟩
  · go_enter Try.func19, Try.ntmps19
    go_wp2_with fail
    refine (vpn_any va _ hv).mono ?_
    rintro e w ⟨rfl, rfl⟩
    go_wp2
    go_ret
    exact ⟨by rw [H1.out]; simp, rfl⟩
  · go_enter Try.func19, Try.ntmps19
    go_wp2_with fail
    refine (vpn_any va _ hv).mono ?_
    rintro e w ⟨rfl, rfl⟩
    go_wp2
    go_ret
    exact ⟨by rw [H2.out]; simp, rfl⟩
def hasB (e : En) (va : Nat) : Bool := e.full && e.page == pgN va e.lf.lev
def matchB (e : En) (va : Nat) (asid : Int) : Bool := hasB e va && (e.asid == asid || e.lf.g)
theorem nat_beq (a b : Nat) : (((a : Nat) : Int) == ((b : Nat) : Int)) = (a == b) := by
  rw [Bool.eq_iff_iff]
  simp only [beq_iff_eq]
  omega
set_option maxHeartbeats 1000000 in
theorem has_any (e : En) (va : Nat) (W : World) (hv : va < 18446744073709551616) (hl : e.full = true → levOK e.lf.lev = true) :
    Calls Try.prog 27 #[e.val, .int .u64 va] W fun r w' => r = .returned (.bool (hasB e va)) ∧ Below W.heap.size W w' := by
  have H : Hid (hasB e va = (e.full && e.page == pgN va e.lf.lev)) := Lib.hid rfl
  have hB : Below W.heap.size W (W.alloc (.cells e.vs.toArray 59)) := (Below.refl _ W).alloc (Nat.le_refl _) _
  have hX : Blk (W.alloc (.cells e.vs.toArray 59)) W.heap.size 59 e.vs.toArray := Blkf.new_at _ _ _ _ rfl
  unfold En.val
  unfold En.vs at hX hB
  have HB := Lib.hid hB
  have HX := Lib.hid hX
  clear hX hB
  go_enter Try.func27, Try.ntmps27
  go_wp2_with fail
  generalize W.alloc (.cells #[.bool e.full, .int .i64 e.asid, .int .u64 e.page, .bool e.lf.v, .bool e.lf.r, .bool e.lf.w, .bool e.lf.x, .bool e.lf.u, .bool e.lf.g, .bool e.lf.a, .bool e.lf.d, .int .i64 e.lf.rsw, .int .u64 e.lf.ppn, .int .i64 e.lf.lev, .int .u64 e.lf.pos] 59) = w0 at *
  have s0 := fun W' (h : Ext w0.drew W') => (h.cell (p := ⟨W.heap.size, 0, none⟩) HX.out.lt).trans (HX.out.cell 0)
  have s2 := fun W' (h : Ext w0.drew W') => (h.cell (p := ⟨W.heap.size, 2, none⟩) HX.out.lt).trans (HX.out.cell 2)
  have s13 := fun W' (h : Ext w0.drew W') => (h.cell (p := ⟨W.heap.size, 13, none⟩) HX.out.lt).trans (HX.out.cell 13)
  simp at s0 s2 s13
  cases hf : e.full
  · rw [hf] at H s0
    refine wp_region_plan [(0, false), (1, false), (2, false), (3, false), (4, false), (5, false), (6, false), (7, false), (8, false), (9, false), (10, false), (11, false), (12, false)] (by kernel_rfl) (by kernel_rfl) (fun _ d _ _ _ h => by cases d <;> exact h) ?_
    iterate 3 (refine plan_take (v := ?_) rfl (by kernel_rfl) ?_ ?_; rotate_left; (focus (intro w' hw'; try go_simp; try with_reducible rfl)); simp only [Act.put, List.setIfInBounds_toArray, List.set_cons_zero, List.set_cons_succ])
    iterate 8 (refine plan_skip rfl (by kernel_rfl) ?_; simp only [Act.put, List.setIfInBounds_toArray, List.set_cons_zero, List.set_cons_succ])
    iterate 2 (refine plan_take (v := ?_) rfl (by kernel_rfl) ?_ ?_; rotate_left; (focus (intro w' hw'; try go_simp; try with_reducible rfl)); simp only [Act.put, List.setIfInBounds_toArray, List.set_cons_zero, List.set_cons_succ])
    refine plan_end ?_
    clear s0 s2 s13
    go_wp2
    go_ret
    exact ⟨by rw [H.out]; rfl, HB.out.drew⟩
  · rw [hf] at H s0
    refine wp_region_plan [(0, false), (1, false), (2, false), (3, false), (4, false), (5, false), (6, false), (7, false), (8, false), (9, false), (10, false), (11, false), (12, false)] (by kernel_rfl) (by kernel_rfl) (fun _ d _ _ _ h => by cases d <;> exact h) ?_
    iterate 9 (refine plan_take (v := ?_) rfl (by kernel_rfl) ?_ ?_; rotate_left; (focus (intro w' hw'; try go_simp; try with_reducible rfl)); simp only [Act.put, List.setIfInBounds_toArray, List.set_cons_zero, List.set_cons_succ])
    refine plan_quiet rfl (by kernel_rfl) (fun w' => by go_simp; all_goals (first | exact ⟨rfl, rfl⟩ | rfl)) (fun w' hw' => page_any va e.lf.lev w' hv (hl hf)) ?_
    simp only [Act.put, List.setIfInBounds_toArray, List.set_cons_zero, List.set_cons_succ]
    iterate 3 (refine plan_take (v := ?_) rfl (by kernel_rfl) ?_ ?_; rotate_left; (focus (intro w' hw'; try go_simp; try with_reducible rfl)); simp only [Act.put, List.setIfInBounds_toArray, List.set_cons_zero, List.set_cons_succ])
    refine plan_end ?_
    clear s0 s2 s13
    go_wp2
    go_ret
    exact ⟨by rw [H.out, nat_beq]; rfl, HB.out.drew⟩
end Go.Proofs.Ytnjoobggcejgkaa
