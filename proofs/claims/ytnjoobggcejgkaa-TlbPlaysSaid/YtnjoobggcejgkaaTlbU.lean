/- Right; Same. -/
import Derived.Test.YtnjoobggcejgkaaTlbT
import Derived.DeepKeys
namespace Go.Proofs.Ytnjoobggcejgkaa
open Go.RowKit Go.ChangeShapes

def powL : List Int := [1, 2, 4, 8, 16, 32, 64]
theorem pow_mem {s : Int} {k : Nat} {v : Int} (h : powL[k]? = some v) (e : v = s) : powB s = true := by
  subst e
  have hk : k < 7 := (List.getElem?_eq_some_iff.1 h).1
  rcases (show k = 0 ∨ k = 1 ∨ k = 2 ∨ k = 3 ∨ k = 4 ∨ k = 5 ∨ k = 6 by omega) with rfl | rfl | rfl | rfl | rfl | rfl | rfl <;> (simp [powL] at h; subst h; rfl)
theorem pow_none {s : Int} (h : ∀ j v, j < 7 → powL[j]? = some v → v ≠ s) : powB s = false := by
  have h0 := h 0 1 (by decide) rfl
  have h1 := h 1 2 (by decide) rfl
  have h2 := h 2 4 (by decide) rfl
  have h3 := h 3 8 (by decide) rfl
  have h4 := h 4 16 (by decide) rfl
  have h5 := h 5 32 (by decide) rfl
  have h6 := h 6 64 (by decide) rfl
  unfold powB
  simp
  omega
set_option maxHeartbeats 1000000 in
theorem right_any (s m : Int) (W : World) :
    Calls Try.prog 7 #[.int .i64 s, .int .i64 m] W fun e w' => e = .returned (.bool (rightS s m)) ∧ Below W.heap.size W w' := by
  have hb := Blkf.new_at W 3 (0, 0) #[.int .i64 1, .int .i64 2, .int .i64 4, .int .i64 8, .int .i64 16, .int .i64 32, .int .i64 64] rfl
  have hw : Below W.heap.size W (W.alloc (.cells #[.int .i64 1, .int .i64 2, .int .i64 4, .int .i64 8, .int .i64 16, .int .i64 32, .int .i64 64] 3)) := (Below.refl _ _).alloc (Nat.le_refl _) _
  have HB := Lib.hid hb
  have HW := Lib.hid hw
  clear hb hw
  go_enter Try.func7, Try.ntmps7
  go_wp2_with fail
  generalize W.alloc (.cells #[.int .i64 1, .int .i64 2, .int .i64 4, .int .i64 8, .int .i64 16, .int .i64 32, .int .i64 64] 3) = W0 at *
  go_loopw [9] (fun i wr => ∃ k : Nat, k ≤ 7 ∧ i = .int .i64 k ∧ W0 = wr ∧ ∀ j v, j < k → powL[j]? = some v → v ≠ s) (fun i _ => 7 - (intOf i).toNat)
  case atStart => exact ⟨0, by omega, rfl, rfl, fun j v hj => absurd hj (by omega)⟩
  case round =>
    obtain ⟨k, hk, rfl, rfl, hno⟩ := hrel
    have HNO := Lib.hid hno
    clear hno
    by_cases hkl : k < 7
    · obtain ⟨v, hv⟩ : ∃ v, powL[k]? = some v := ⟨_, List.getElem?_eq_getElem hkl⟩
      have hc : W0.cell? ⟨W.heap.size, k, none⟩ = some (.int .i64 v) := by
        rw [HB.out.cell]
        rcases (show k = 0 ∨ k = 1 ∨ k = 2 ∨ k = 3 ∨ k = 4 ∨ k = 5 ∨ k = 6 by omega) with rfl | rfl | rfl | rfl | rfl | rfl | rfl <;> (simp [powL] at hv; subst hv; rfl)
      have HVV := Lib.hid hv
      clear hv
      by_cases he : v = s
      · have HR : Hid (rightS s m = (decide (1 ≤ m) && decide (m ≤ 8))) := Lib.hid (by unfold rightS; rw [pow_mem HVV.out he]; rfl)
        subst he
        by_cases hm1 : 1 ≤ m
        · by_cases hm2 : m ≤ 8
          · go_wp2_with fail
            go_ret
            exact ⟨by rw [HR.out, decide_eq_true hm1, decide_eq_true hm2]; rfl, HW.out⟩
          · go_wp2_with fail
            go_ret
            exact ⟨by rw [HR.out, decide_eq_true hm1, decide_eq_false (by omega)]; rfl, HW.out⟩
        · go_wp2_with fail
          go_ret
          exact ⟨by rw [HR.out, decide_eq_false (by omega)]; rfl, HW.out⟩
      · have hne : (v == s) = false := by simpa using he
        have HNX : Hid (∀ j u, j < k + 1 → powL[j]? = some u → u ≠ s) := Lib.hid (fun j u hj hu => by
          rcases Nat.lt_or_ge j k with h | h
          · exact HNO.out j u h hu
          · obtain rfl : j = k := by omega
            rw [HVV.out] at hu
            injection hu with hu
            rw [← hu]; exact he)
        clear he
        go_wp2_with fail
        go_roundw
        case rel => exact ⟨k + 1, hkl, by go_num, by trivial, HNX.out⟩
        case measure => simp [intOf]; omega
    · obtain rfl : k = 7 := by omega
      have HR : Hid (rightS s m = false) := Lib.hid (by unfold rightS; rw [pow_none HNO.out]; rfl)
      go_wp2_with fail
      go_ret
      exact ⟨by rw [HR.out]; rfl, HW.out⟩
/-- Entries whose numbers are in range. -/
def EnWf (e : En) : Prop := LfWf e.lf ∧ (Lit.int .i64 e.asid).wf = true ∧ e.page < 18446744073709551616
def WfT (T : List (List En)) : Prop := ∀ s ∈ T, ∀ e ∈ s, e.full = true → EnWf e
def SlWf (x : Sl) : Prop := LfWf x.lf ∧ (Lit.int .i64 x.asid).wf = true ∧ x.page < 18446744073709551616 ∧ (Lit.int .i64 x.set).wf = true ∧ (Lit.int .i64 x.way).wf = true
def Sl.lits (x : Sl) : List Lit := [.int .i64 x.set, .int .i64 x.way, .int .i64 x.asid, .int .u64 x.page] ++ x.lf.lits
theorem c_slot : Try.prog.cellsOf 64 = 16 := by kernel_rfl
theorem page_wf {n : Nat} (h : n < 18446744073709551616) : (Lit.int .u64 (n : Int)).wf = true := by
  simp [Lit.wf, IntKind.min, IntKind.max, IntKind.signed, IntKind.bits]; omega
theorem key_slot (d : Nat) (x : Sl) (h : SlWf x) : Try.prog.keyLits (d + 4) 64 x.vs = some x.lits := by
  obtain ⟨h1, h2, h3, h4, h5⟩ := h
  have hp := key_leaf d x.lf h1
  have hpg := page_wf h3
  unfold Lf.vs at hp
  unfold Program.keyLits Sl.vs Sl.lits
  simp [Try.underlying64, c_slot, c_leaf, c_int, c_u64, key_int, key_u64, hp, h2, hpg, h4, h5]
theorem slot_same (W : World) (x : Sl) (h : SlWf x) : (Op.equalIn 10000 64 (.agg x.cs) (.agg x.cs)).run Try.prog W = .ok true W := by
  have hd := run_equalIn_deep (P := Try.prog) 9994 6 64 (by kernel_rfl)
  obtain ⟨r, hr, hi⟩ := hd W 6 6 _ _ _ _ (by kernel_rfl : (Value.agg x.cs).formed Try.prog 64 = true) (by kernel_rfl : (Value.agg x.cs).formed Try.prog 64 = true) (key_slot 2 x h) (key_slot 2 x h)
  rw [hi.2 rfl] at hr
  exact hr
theorem range_drew {w : World} {b o : Nat} {l : List Value} (h : w.rangeAt b o l) : w.drew.rangeAt b o l := h
set_option maxHeartbeats 1000000 in
theorem same_any (A1 A2 : Option Addr) (c1 c2 : Nat) (L : List Sl) (W : World) (hL : L.length ≤ 600) (h1 : RdS W (.slice A1 L.length c1) L) (h2 : RdS W (.slice A2 L.length c2) L) (hw : ∀ x ∈ L, SlWf x) :
    Calls Try.prog 16 #[.slice A1 L.length c1, .slice A2 L.length c2] W fun e w' => e = .returned (.bool true) ∧ Below W.heap.size W w' := by
  obtain ⟨n, hn⟩ : ∃ n, n = L.length := ⟨_, rfl⟩
  have H1 := Lib.hid h1
  have H2 := Lib.hid h2
  have HW := Lib.hid hw
  rw [← hn] at hL ⊢
  have HN := Lib.hid hn
  clear h1 h2 hw hn
  go_enter Try.func16, Try.ntmps16
  go_wp2_with fail
  go_loopw [13] (fun i wr => ∃ k : Nat, k ≤ n ∧ i = .int .i64 k ∧ Below W.heap.size W wr) (fun i _ => n - (intOf i).toNat)
  case atStart => exact ⟨0, by omega, rfl, Below.refl _ _⟩
  case round =>
    obtain ⟨k, hk, rfl, hb⟩ := hrel
    have HB := Lib.hid hb
    clear hb
    by_cases hkl : k < n
    · obtain ⟨x, hx⟩ : ∃ x, L[k]? = some x := ⟨_, List.getElem?_eq_getElem (by rw [← HN.out]; exact hkl)⟩
      have hne : L ≠ [] := fun e => by rw [e] at hx; simp at hx
      obtain ⟨b1, e1, r1⟩ := H1.out.range hne
      obtain ⟨b2, e2, r2⟩ := H2.out.range hne
      obtain rfl : A1 = some ⟨b1, 0, none⟩ := by injection e1
      obtain rfl : A2 = some ⟨b2, 0, none⟩ := by injection e2
      have R1 := Lib.hid (range_drew (range_below (r1 k x hx) HB.out))
      have R2 := Lib.hid (range_drew (range_below (r2 k x hx) HB.out))
      have HXW := Lib.hid (HW.out x (List.mem_of_getElem? hx))
      clear e1 e2 r1 r2 hne hx
      have hki : (k : Int) < (n : Int) := by omega
      go_wp2_with fail
      have heq := fun W => slot_same W x HXW.out
      refine wp_region_plan [(0, false), (1, false), (2, false), (3, false), (4, false), (5, false), (6, false), (7, false), (8, false)] (by kernel_rfl) (by kernel_rfl) (fun _ d _ _ _ h => by cases d <;> exact h) ?_
      iterate 3 (refine plan_take (v := ?_) rfl (by kernel_rfl) ?_ ?_; rotate_left; (focus (intro w' hw'; try go_simp; try with_reducible rfl)); simp only [Act.put, List.setIfInBounds_toArray, List.set_cons_zero, List.set_cons_succ])
      refine plan_take rfl (by kernel_rfl) (fun w' h' => run_load_op 64 (.tmp 18) rfl b1 (k * 16) x.cs rfl (range_below R1.out h') (slot_row x)) ?_
      simp only [Act.put, List.setIfInBounds_toArray, List.set_cons_zero, List.set_cons_succ]
      iterate 3 (refine plan_take (v := ?_) rfl (by kernel_rfl) ?_ ?_; rotate_left; (focus (intro w' hw'; try go_simp; try with_reducible rfl)); simp only [Act.put, List.setIfInBounds_toArray, List.set_cons_zero, List.set_cons_succ])
      refine plan_take rfl (by kernel_rfl) (fun w' h' => run_load_op 64 (.tmp 22) rfl b2 (k * 16) x.cs rfl (range_below R2.out h') (slot_row x)) ?_
      simp only [Act.put, List.setIfInBounds_toArray, List.set_cons_zero, List.set_cons_succ]
      iterate 1 (refine plan_take (v := ?_) rfl (by kernel_rfl) ?_ ?_; rotate_left; (focus (intro w' hw'; try go_simp; try with_reducible rfl)); simp only [Act.put, List.setIfInBounds_toArray, List.set_cons_zero, List.set_cons_succ])
      refine plan_end ?_
      clear heq
      go_wp2_with fail
      go_roundw
      case rel => exact ⟨k + 1, hkl, by go_num, HB.out.drew⟩
      case measure => simp [intOf]; omega
    · obtain rfl : n = k := by omega
      go_wp2_with fail
      go_ret
      exact ⟨rfl, HB.out⟩
end Go.Proofs.Ytnjoobggcejgkaa
