/- Clocks in memory; join, size, lays, node, Ahead. -/
import Derived.Test.YtocjapnagggapaaDoorClkP
import Derived.Test.YtocjapnagggapaaDoorWide
import Derived.Test.YtocjapnagggapaaDoorObjs
import Derived.Test.YtocjapnagggapaaDoorPlanT
import Derived.Test.YtocjapnagggapaaDoorPlanI
import Derived.DeepKeys
namespace Go.Proofs.YtocjapnagggapaaDoor
open Go.RowKit

/-- n numbers in a row. -/
def fnC (n : Nat) (f : Nat → Nat) : Array Value := ((List.range n).map fun i => Value.int .i64 (f i : Int)).toArray
theorem fnC_size (n : Nat) (f : Nat → Nat) : (fnC n f).size = n := by simp [fnC]
theorem fnC_get {n i : Nat} (f : Nat → Nat) (h : i < n) : (fnC n f)[i]? = some (.int .i64 (f i : Int)) := by
  unfold fnC
  rw [List.getElem?_toArray, List.getElem?_map, List.getElem?_range h]
  rfl
theorem fnC_set {n i v : Nat} (f : Nat → Nat) (h : i < n) : (fnC n f).setIfInBounds i (.int .i64 (v : Int)) = fnC n (fun j => if j = i then v else f j) := by
  apply Array.ext_getElem?
  intro j
  rcases Nat.lt_or_ge j n with hj | hj
  · rw [fnC_get _ hj, Array.getElem?_setIfInBounds]
    by_cases e : i = j
    · subst e
      rw [if_pos rfl, if_pos (by rw [fnC_size]; exact h), if_pos rfl]
    · rw [if_neg e, if_neg (fun h => e h.symm), fnC_get _ hj]
  · rw [Array.getElem?_eq_none (by simp [fnC_size]; exact hj), Array.getElem?_eq_none (by rw [fnC_size]; exact hj)]
theorem fnC_one (n : Nat) (f : Nat → Nat) : (fnC n f).all (·.oneCell') = true := by
  rw [Array.all_eq_true_iff_forall_mem]
  intro u hu
  unfold fnC at hu
  simp at hu
  obtain ⟨i, _, rfl⟩ := hu
  rfl
theorem fnC_congr {n : Nat} {f g : Nat → Nat} (h : ∀ i, i < n → f i = g i) : fnC n f = fnC n g := by
  apply Array.ext_getElem?
  intro j
  rcases Nat.lt_or_ge j n with hj | hj
  · rw [fnC_get _ hj, fnC_get _ hj, h j hj]
  · rw [Array.getElem?_eq_none (by rw [fnC_size]; exact hj), Array.getElem?_eq_none (by rw [fnC_size]; exact hj)]
theorem fnC_inj {n : Nat} {f g : Nat → Nat} : fnC n f = fnC n g ↔ ∀ i, i < n → f i = g i := by
  constructor
  · intro h i hi
    have h1 := fnC_get f hi
    rw [h, fnC_get g hi] at h1
    injection h1 with h1
    injection h1 with _ h1
    omega
  · exact fnC_congr
theorem clk_row (f : Nat → Nat) : rowT Tryd.prog 46 (fnC 16 f).size = true := by rw [fnC_size]; kernel_rfl
theorem arr_row (f : Nat → Nat) : rowT Tryd.prog 26 (fnC 16 f).size = true := by rw [fnC_size]; kernel_rfl
theorem idx_clk (f : Nat → Nat) (i : Nat) (hi : i < 16) (w : World) : (Instr.index 46 (.agg (fnC 16 f)) (.int .i64 (i : Int))).run Tryd.prog w = .ok (.int .i64 (f i : Int)) w :=
  run_index_arr w _ 3 16 _ .i64 i _ Tryd.underlying46 (by kernel_rfl) (by kernel_rfl) hi (fnC_get f hi)
def joinK (off : Nat) (f d : Nat → Nat) (k : Nat) : Nat → Nat := fun i => if off ≤ i ∧ i < off + k then max (f i) (d (i - off)) else f i
theorem joinK_succ (off : Nat) (f d : Nat → Nat) (k : Nat) : (fun j => if j = off + k then max (joinK off f d k (off + k)) (d k) else joinK off f d k j) = joinK off f d (k + 1) := by
  funext j
  unfold joinK
  by_cases e : j = off + k
  · subst e
    rw [if_pos rfl, if_neg (by omega), if_pos (by omega), Nat.add_sub_cancel_left]
  · rw [if_neg e]
    by_cases h : off ≤ j ∧ j < off + k
    · rw [if_pos h, if_pos (by omega)]
    · rw [if_neg h, if_neg (by omega)]
theorem joinK_zero (off : Nat) (f d : Nat → Nat) : joinK off f d 0 = f := by
  funext j
  unfold joinK
  rw [if_neg (by omega)]
set_option maxHeartbeats 2000000 in
theorem join_any (b off N : Nat) (t : TypeId) (f d : Nat → Nat) (W : World) (hN : off + 16 ≤ N) (hb : Blk W b t (fnC N f)) :
    Calls Tryd.prog 27 #[.pointer (some ⟨b, off, none⟩), .agg (fnC 16 d)] W fun e w' => e = .returned (.tuple #[]) ∧ Blk w' b t (fnC N (joinK off f d 16)) ∧ Keeps (fun x => x = b) W w' := by
  have HX : Hid (Blk (W.alloc (.cells (fnC 16 d) 46)) W.heap.size 46 (fnC 16 d)) := Lib.hid (Blkf.new_at _ _ _ _ rfl)
  have H0 : Hid (Blk (W.alloc (.cells (fnC 16 d) 46)) b t (fnC N f) ∧ Keeps (fun x => x = b) W (W.alloc (.cells (fnC 16 d) 46))) := Lib.hid ⟨hb.alloc _, (Keeps.refl _ W).alloc _⟩
  have HN := Lib.hid hN
  clear hb hN
  have hrg := HX.out.range
  go_enter Tryd.func27, Tryd.ntmps27
  go_wp2_with (first | ((with_reducible refine wl_load 46 (.tmp 3) rfl ?_ (World.heap W).size 0 (fnC 16 d) ?_ hrg ?_ ?_); exact rfl; exact rfl; exact clk_row d))
  clear hrg HX
  generalize W.alloc (.cells (fnC 16 d) 46) = W1 at *
  go_loopw [7] (fun i wr => ∃ k : Nat, k ≤ 16 ∧ i = .int .i64 (k : Int) ∧ Blk wr b t (fnC N (joinK off f d k)) ∧ Keeps (fun x => x = b) W wr) (fun i _ => 16 - (intOf i).toNat)
  case atStart => exact ⟨0, by omega, rfl, by rw [joinK_zero]; exact H0.out.1, H0.out.2⟩
  case round =>
    obtain ⟨k, hk, rfl, hB, hK⟩ := hrel
    have HB := Lib.hid hB
    have HK := Lib.hid hK
    clear hB hK
    by_cases hk16 : k < 16
    · have hki : (k : Int) < 16 := by omega
      have hk0 : (0 : Int) ≤ (k : Int) := by omega
      have hix := idx_clk d k hk16
      have HD := Lib.hid HB.out.drew
      have hc : wr.drew.cell? ⟨b, off + k, none⟩ = some (.int .i64 (joinK off f d k (off + k) : Int)) := (HD.out.cell _).trans (fnC_get _ (by have := HN.out; omega))
      have hl := HD.out.lt
      have hf := Blk.frozen HD.out (off + k)
      have s1 := fun (W' : World) (h : Ext wr.drew W') => (h.cell (p := ⟨b, off + k, none⟩) hl).trans hc
      go_wp2_with fail
      refine wp_region_plan [(0, false), (1, false), (2, false), (3, false), (4, false), (5, false), (6, false), (7, false), (8, false), (9, false), (10, false), (11, true)] (by kernel_rfl) (by kernel_rfl) (fun _ d _ _ _ h => by cases d <;> exact h) ?_
      iterate 11 (refine plan_take (v := ?_) rfl (by kernel_rfl) ?_ ?_; rotate_left; (focus (intro w' hw'; try go_simp; try with_reducible rfl)); simp only [Act.put, List.setIfInBounds_toArray, List.set_cons_zero, List.set_cons_succ])
      have hmax : (if joinK off f d k (off + k) < d k then ((d k : Nat) : Int) else ((joinK off f d k (off + k) : Nat) : Int)) = ((max (joinK off f d k (off + k)) (d k) : Nat) : Int) := by split <;> omega
      rw [hmax]
      have HF : Hid (Blk (wr.drew.setCell ⟨b, off + k, none⟩ (.int .i64 ((max (joinK off f d k (off + k)) (d k) : Nat) : Int))) b t (fnC N (joinK off f d (k + 1))) ∧ Keeps (fun x => x = b) W (wr.drew.setCell ⟨b, off + k, none⟩ (.int .i64 ((max (joinK off f d k (off + k)) (d k) : Nat) : Int)))) := Lib.hid (by
        have h1 := HD.out.set_ (off + k) (.int .i64 ((max (joinK off f d k (off + k)) (d k) : Nat) : Int))
        rw [fnC_set _ (by have := HN.out; omega), joinK_succ] at h1
        exact ⟨h1, HK.out.drew.setCell (p := ⟨b, off + k, none⟩) (.inl rfl) _⟩)
      clear hmax
      generalize max (joinK off f d k (off + k)) (d k) = mx at *
      refine plan_last rfl (by kernel_rfl) (by kernel_rfl) (fun K hK => ?_)
      go_simp
      refine hK _ _ ?_
      clear hK K s1 hc hl hf hix
      refine plan_end ?_
      go_wp2_with fail
      go_roundw
      case rel => exact ⟨k + 1, hk16, by go_num, HF.out.1, HF.out.2⟩
      case measure => simp [intOf]; omega
    · obtain rfl : k = 16 := by omega
      go_wp2_with fail
      refine bodyPost_end (results_none rfl _ _ _) rfl ?_
      exact ⟨rfl, HB.out, HK.out⟩
/-- What clocks look at of a fact's sixteen cells. -/
structure FcAt (cs : Array Value) (x : Fc) : Prop where
  size : cs.size = 16
  node : cs[1]? = some (.int .i64 x.node)
  acc : cs[11]? = some (.int .i64 x.acc)
  addr : cs[12]? = some (.int .u64 (x.addr : Int))
  sz : cs[13]? = some (.int .i64 x.size)
  one : cs.all (·.oneCell') = true
  lt : x.addr < 18446744073709551616
theorem FcAt.row {cs : Array Value} {x : Fc} (h : FcAt cs x) : rowT Tryd.prog 40 cs.size = true := by rw [h.size]; kernel_rfl
theorem size_any (cs : Array Value) (x : Fc) (W : World) (h : FcAt cs x) :
    Calls Tryd.prog 25 #[.agg cs] W fun e w' => e = .returned (.int .u64 (x.sz : Int)) ∧ W.alloc (.cells cs 40) = w' := by
  have hb : Blk (W.alloc (.cells cs 40)) W.heap.size 40 cs := Blkf.new_at _ _ _ _ rfl
  have c1 := (hb.cell 13).trans h.sz
  have hl := hb.lt
  clear hb h
  rcases (show x.size < 0 ∨ 8 < x.size ∨ (0 ≤ x.size ∧ x.size ≤ 8) by omega) with h1 | h1 | ⟨h1, h2⟩
  · have HX : Hid (((x.sz : Nat) : Int) = 0) := Lib.hid (by unfold Fc.sz; omega)
    generalize x.size = s at *
    go_enter Tryd.func25, Tryd.ntmps25
    go_wp2_with fail
    go_ret
    exact ⟨by rw [HX.out]; rfl, rfl⟩
  · have HX : Hid (((x.sz : Nat) : Int) = 8) := Lib.hid (by unfold Fc.sz; omega)
    generalize x.size = s at *
    have h3 : ¬ s < 0 := by omega
    go_enter Tryd.func25, Tryd.ntmps25
    go_wp2_with fail
    go_ret
    exact ⟨by rw [HX.out]; rfl, rfl⟩
  · have HX : Hid (((x.sz : Nat) : Int) = x.size) := Lib.hid (by unfold Fc.sz; omega)
    have hw : IntKind.u64.wrap x.size = x.size := by rw [IntKind.wrap_u64]; omega
    generalize x.size = s at *
    have h3 : ¬ s < 0 := by omega
    have h4 : ¬ 8 < s := by omega
    go_enter Tryd.func25, Tryd.ntmps25
    go_wp2_with fail
    go_ret
    exact ⟨by rw [HX.out]; rfl, rfl⟩
theorem lays_any (cs : Array Value) (x : Fc) (W : World) (h : FcAt cs x) :
    Calls Tryd.prog 21 #[.agg cs] W fun e w' => e = .returned (.bool x.lays) ∧ W.alloc (.cells cs 40) = w' := by
  have hb : Blk (W.alloc (.cells cs 40)) W.heap.size 40 cs := Blkf.new_at _ _ _ _ rfl
  have c1 := (hb.cell 11).trans h.acc
  have hl := hb.lt
  clear hb
  go_enter Tryd.func21, Tryd.ntmps21
  go_wp2_with fail
  go_ret
  exact ⟨rfl, rfl⟩
theorem node_any (n : Int) (W : World) : Calls Tryd.prog 16 #[.int .i64 n] W fun e w' => e = .returned (.bool (decide (0 ≤ n) && decide (n < 16))) ∧ W = w' := by
  by_cases h0 : 0 ≤ n
  · go_enter Tryd.func16, Tryd.ntmps16
    go_wp2_with fail
    go_ret
    exact ⟨by rw [decide_eq_true h0]; rfl, rfl⟩
  · have h1 : decide (0 ≤ n) = false := by simpa using h0
    go_enter Tryd.func16, Tryd.ntmps16
    go_wp2_with fail
    go_ret
    exact ⟨rfl, rfl⟩
end Go.Proofs.YtocjapnagggapaaDoor
