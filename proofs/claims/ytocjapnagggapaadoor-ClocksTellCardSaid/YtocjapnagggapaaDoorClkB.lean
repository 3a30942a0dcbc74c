/- Ahead. -/
import Derived.Test.YtocjapnagggapaaDoorClkA
namespace Go.Proofs.YtocjapnagggapaaDoor
open Go.RowKit Go.ChangeShapes

def fiC (n : Nat) (f : Nat → Int) : Array Value := ((List.range n).map fun i => Value.int .i64 (f i)).toArray
theorem fiC_size (n : Nat) (f : Nat → Int) : (fiC n f).size = n := by simp [fiC]
theorem fiC_get {n i : Nat} (f : Nat → Int) (h : i < n) : (fiC n f)[i]? = some (.int .i64 (f i)) := by
  unfold fiC
  rw [List.getElem?_toArray, List.getElem?_map, List.getElem?_range h]
  rfl
theorem fiC_nat (n : Nat) (f : Nat → Nat) : fiC n (fun i => (f i : Int)) = fnC n f := rfl
theorem fiC_inj {n : Nat} {f g : Nat → Int} : fiC n f = fiC n g ↔ ∀ i, i < n → f i = g i := by
  constructor
  · intro h i hi
    have h1 := fiC_get f hi
    rw [h, fiC_get g hi] at h1
    injection h1 with h1
    injection h1 with _ h1
    exact h1.symm
  · intro h
    apply Array.ext_getElem?
    intro j
    rcases Nat.lt_or_ge j n with hj | hj
    · rw [fiC_get _ hj, fiC_get _ hj, h j hj]
    · rw [Array.getElem?_eq_none (by rw [fiC_size]; exact hj), Array.getElem?_eq_none (by rw [fiC_size]; exact hj)]
theorem fiC_row (f : Nat → Int) : rowT Tryd.prog 26 (fiC 16 f).size = true := by rw [fiC_size]; kernel_rfl
theorem ckey1 (n : Int) (h : (Lit.int .i64 n).wf = true) : Tryd.prog.keyLits 4 3 [.int .i64 n] = some [.int .i64 n] := by
  unfold Program.keyLits
  simp [Tryd.underlying3, h]
def fiL (f : Nat → Int) : List Lit := (List.range 16).map fun i => Lit.int .i64 (f i)
theorem key16 (f : Nat → Int) (h : ∀ i, i < 16 → (Lit.int .i64 (f i)).wf = true) : Tryd.prog.keyLits 5 26 (fiC 16 f).toList = some (fiL f) := by
  have e16 : Tryd.prog.cellsOf 26 = 16 := by kernel_rfl
  have e1 : Tryd.prog.cellsOf 3 = 1 := by kernel_rfl
  have k := fun i hi => ckey1 (f i) (h i hi)
  unfold Program.keyLits fiC fiL
  simp [Tryd.underlying26, e16, e1, List.range, List.range.loop, k 0 (by decide), k 1 (by decide), k 2 (by decide), k 3 (by decide), k 4 (by decide), k 5 (by decide), k 6 (by decide), k 7 (by decide), k 8 (by decide), k 9 (by decide), k 10 (by decide), k 11 (by decide), k 12 (by decide), k 13 (by decide), k 14 (by decide), k 15 (by decide)]
theorem fiL_inj (f g : Nat → Int) : fiL f = fiL g ↔ ∀ i, i < 16 → f i = g i := by
  unfold fiL
  constructor
  · intro h i hi
    have h1 := congrArg (fun l => l[i]?) h
    simp only [List.getElem?_map, List.getElem?_range hi, Option.map_some] at h1
    injection h1 with h1
    injection h1
  · intro h
    apply List.map_congr_left
    intro i hi
    rw [h i (List.mem_range.1 hi)]
def allLe (f g : Nat → Int) : Bool := (List.range 16).all fun i => decide (f i ≤ g i)
def allEq (f g : Nat → Int) : Bool := (List.range 16).all fun i => decide (f i = g i)
def aheadB (f g : Nat → Int) : Bool := allLe f g && !allEq f g
theorem allLe_iff {f g : Nat → Int} : allLe f g = true ↔ ∀ i, i < 16 → f i ≤ g i := by
  unfold allLe
  rw [List.all_eq_true]
  exact ⟨fun h i hi => by simpa using h i (List.mem_range.2 hi), fun h i hi => by simpa using h i (List.mem_range.1 hi)⟩
theorem allEq_iff {f g : Nat → Int} : allEq f g = true ↔ ∀ i, i < 16 → f i = g i := by
  unfold allEq
  rw [List.all_eq_true]
  exact ⟨fun h i hi => by simpa using h i (List.mem_range.2 hi), fun h i hi => by simpa using h i (List.mem_range.1 hi)⟩
theorem arr16_eq (W : World) (f g : Nat → Int) (hf : ∀ i, i < 16 → (Lit.int .i64 (f i)).wf = true) (hg : ∀ i, i < 16 → (Lit.int .i64 (g i)).wf = true) :
    (Op.equalIn 10000 26 (.agg (fiC 16 f)) (.agg (fiC 16 g))).run Tryd.prog W = .ok (allEq f g) W := by
  have h := run_equalIn_deep (P := Tryd.prog) 9995 5 26 (by kernel_rfl)
  obtain ⟨r, hr, hi⟩ := h W 5 5 _ _ _ _ (by kernel_rfl : (Value.agg (fiC 16 f)).formed Tryd.prog 26 = true) (by kernel_rfl : (Value.agg (fiC 16 g)).formed Tryd.prog 26 = true) (key16 f hf) (key16 g hg)
  have : r = allEq f g := bool_ext (by rw [hi, fiL_inj, allEq_iff])
  rw [this] at hr
  exact hr
theorem neq16 (W : World) (f g : Nat → Int) (hf : ∀ i, i < 16 → (Lit.int .i64 (f i)).wf = true) (hg : ∀ i, i < 16 → (Lit.int .i64 (g i)).wf = true) :
    (binOp .neq 26 (.agg (fiC 16 f)) (.agg (fiC 16 g))).run Tryd.prog W = .ok (.bool (!allEq f g)) W := by
  have h := arr16_eq W f g hf hg
  simp [binOp, Op.equal, Op.maxDepth, h]
set_option maxHeartbeats 2000000 in
theorem ahead_any (f g : Nat → Int) (W : World) (hf : ∀ i, i < 16 → (Lit.int .i64 (f i)).wf = true) (hg : ∀ i, i < 16 → (Lit.int .i64 (g i)).wf = true) :
    Calls Tryd.prog 12 #[.agg (fiC 16 f), .agg (fiC 16 g)] W fun e w' => e = .returned (.bool (aheadB f g)) ∧ Below W.heap.size W w' := by
  have HE := Lib.hid (fun W => neq16 W f g hf hg)
  have hA : Blk ((W.alloc (.cells (fiC 16 f) 26)).alloc (.cells (fiC 16 g) 26)) W.heap.size 26 (fiC 16 f) := (Blkf.new_at _ _ _ _ rfl).alloc _
  have hB : Blk ((W.alloc (.cells (fiC 16 f) 26)).alloc (.cells (fiC 16 g) 26)) (W.heap.size + 1) 26 (fiC 16 g) := Blkf.new_at _ _ _ _ (by simp)
  have H0 : Hid (Blk ((W.alloc (.cells (fiC 16 f) 26)).alloc (.cells (fiC 16 g) 26)) W.heap.size 26 (fiC 16 f) ∧ Blk ((W.alloc (.cells (fiC 16 f) 26)).alloc (.cells (fiC 16 g) 26)) (W.heap.size + 1) 26 (fiC 16 g) ∧ Below W.heap.size W ((W.alloc (.cells (fiC 16 f) 26)).alloc (.cells (fiC 16 g) 26))) :=
    Lib.hid ⟨hA, hB, ((Below.refl _ _).alloc (Nat.le_refl _) _).alloc (by simp) _⟩
  clear hA hB hf hg
  go_enter Tryd.func12, Tryd.ntmps12
  go_wp2_with fail
  generalize (W.alloc (.cells (fiC 16 f) 26)).alloc (.cells (fiC 16 g) 26) = W1 at *
  go_loopw [6, 4] (fun i r wr => ∃ k : Nat, k ≤ 16 ∧ i = .int .i64 (k : Int) ∧ r = .bool false ∧ (∀ j, j < k → f j ≤ g j) ∧ Blk wr W.heap.size 26 (fiC 16 f) ∧ Blk wr (W.heap.size + 1) 26 (fiC 16 g) ∧ Below W.heap.size W wr) (fun i _ _ => 16 - (intOf i).toNat)
  case atStart => exact ⟨0, by omega, rfl, rfl, fun j hj => by omega, H0.out⟩
  case round =>
    obtain ⟨k, hk, rfl, rfl, hall, hA, hB, hb⟩ := hrel
    have HA := Lib.hid hA
    have HB := Lib.hid hB
    have HW := Lib.hid hb
    have HALL := Lib.hid hall
    clear hA hB hb hall
    by_cases hk16 : k < 16
    · have hki : (k : Int) < 16 := by omega
      have hk0 : (0 : Int) ≤ (k : Int) := by omega
      have s1 := fun (W' : World) (h : Ext wr.drew W') => (h.cell (p := ⟨W.heap.size, k, none⟩) HA.out.drew.lt).trans ((HA.out.drew.cell _).trans (fiC_get f hk16))
      have s2 := fun (W' : World) (h : Ext wr.drew W') => (h.cell (p := ⟨W.heap.size + 1, k, none⟩) HB.out.drew.lt).trans ((HB.out.drew.cell _).trans (fiC_get g hk16))
      go_wp2_with fail
      refine wp_region_plan [(0, false), (1, false), (2, false), (3, false), (4, false), (5, false), (6, false)] (by kernel_rfl) (by kernel_rfl) (fun _ d _ _ _ h => by cases d <;> exact h) ?_
      iterate 7 (refine plan_take (v := ?_) rfl (by kernel_rfl) ?_ ?_; rotate_left; (focus (intro w' hw'; try go_simp; try with_reducible rfl)); simp only [Act.put, List.setIfInBounds_toArray, List.set_cons_zero, List.set_cons_succ])
      clear s1 s2
      refine plan_end ?_
      by_cases hgt : g k < f k
      · have HR : Hid (aheadB f g = false) := Lib.hid (by
          unfold aheadB
          have : allLe f g = false := by
            cases h : allLe f g with
            | false => rfl
            | true => have := allLe_iff.1 h k hk16; omega
          rw [this]; rfl)
        have hd : decide (g k < f k) = true := by simpa using hgt
        go_wp2_with fail
        go_ret
        exact ⟨by rw [HR.out]; rfl, HW.out.drew⟩
      · have hd : decide (g k < f k) = false := by simpa using hgt
        have HN : Hid (∀ j, j < k + 1 → f j ≤ g j) := Lib.hid (fun j hj => by
          rcases Nat.lt_or_ge j k with h1 | h1
          · exact HALL.out j h1
          · have : j = k := by omega
            subst this; omega)
        go_wp2_with fail
        go_roundw
        case rel => exact ⟨k + 1, hk16, by go_num, rfl, HN.out, HA.out.drew, HB.out.drew, HW.out.drew⟩
        case measure => simp [intOf]; omega
    · obtain rfl : k = 16 := by omega
      have HR : Hid (aheadB f g = !allEq f g) := Lib.hid (by unfold aheadB; rw [allLe_iff.2 HALL.out]; rfl)
      have ra := HA.out.range
      have rb := HB.out.range
      have he := HE.out
      go_wp2_with (first | ((with_reducible refine wl_load 26 (.tmp 2) rfl ?_ (World.heap W).size 0 (fiC 16 f) ?_ ra ?_ ?_); exact rfl; exact rfl; exact fiC_row f) | ((with_reducible refine wl_load 26 (.tmp 3) rfl ?_ ((World.heap W).size + 1) 0 (fiC 16 g) ?_ rb ?_ ?_); exact rfl; exact rfl; exact fiC_row g))
      go_ret
      exact ⟨by rw [HR.out]; rfl, HW.out⟩
end Go.Proofs.YtocjapnagggapaaDoor
