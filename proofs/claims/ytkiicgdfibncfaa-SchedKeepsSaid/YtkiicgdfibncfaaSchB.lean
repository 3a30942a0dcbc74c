/- Lists of acts: Same, Robin. -/
import Derived.Test.YtkiicgdfibncfaaSchA
namespace Go.Proofs.Ytkiicgdfibncfaa
open Go.RowKit

abbrev A3 := Int × Int × Int
def actC (x : A3) : List Value := [.int .i64 x.1, .int .i64 x.2.1, .int .i64 x.2.2]
def actsC (l : List A3) : List Value := l.flatMap actC
theorem actsC_len (l : List A3) : (actsC l).length = l.length * 3 := by
  induction l with
  | nil => rfl
  | cons x l ih => simp only [actsC, List.flatMap_cons, List.length_append, actC, List.length_cons, List.length_nil] at ih ⊢; omega
theorem actsC_append (l m : List A3) : actsC (l ++ m) = actsC l ++ actsC m := by simp [actsC]
theorem actsC_get : ∀ (l : List A3) (k : Nat) (x : A3), l[k]? = some x → (actsC l)[k * 3]? = some (.int .i64 x.1) ∧ (actsC l)[k * 3 + 1]? = some (.int .i64 x.2.1) ∧ (actsC l)[k * 3 + 2]? = some (.int .i64 x.2.2)
  | [], k, x, h => by simp at h
  | y :: l, 0, x, h => by
    simp at h
    subst h
    exact ⟨rfl, rfl, rfl⟩
  | y :: l, k + 1, x, h => by
    have := actsC_get l k x (by simpa using h)
    have e : ∀ j, (actsC (y :: l))[(k + 1) * 3 + j]? = (actsC l)[k * 3 + j]? := fun j => by
      show (actC y ++ actsC l)[(k + 1) * 3 + j]? = _
      rw [List.getElem?_append_right (by simp [actC]; omega)]
      congr 1
      simp [actC]
      omega
    exact ⟨(e 0).trans this.1, (e 1).trans this.2.1, (e 2).trans this.2.2⟩
/-- A slice that reads as a list of acts, in blocks of F. -/
def RdA (F : Nat → Prop) (w : World) (v : Value) (l : List A3) : Prop := ∃ A c, v = .slice A l.length c ∧ l.length ≤ c ∧ (l ≠ [] → ∃ b o, A = some ⟨b, o, none⟩ ∧ F b ∧ b < w.heap.size ∧
  ∀ k x, l[k]? = some x → w.cell? ⟨b, o + k * 3, none⟩ = some (.int .i64 x.1) ∧ w.cell? ⟨b, o + k * 3 + 1, none⟩ = some (.int .i64 x.2.1) ∧ w.cell? ⟨b, o + k * 3 + 2, none⟩ = some (.int .i64 x.2.2))
theorem RdA.keeps {F G : Nat → Prop} {w w' : World} {v : Value} {l : List A3} (h : RdA F w v l) (k : Keeps G w w') (hd : ∀ g, F g → ¬ G g) : RdA F w' v l := by
  obtain ⟨A, c, rfl, hle, h⟩ := h
  refine ⟨A, c, rfl, hle, fun hne => ?_⟩
  obtain ⟨b, o, rfl, hF, hb, hc⟩ := h hne
  have e : ∀ i, w'.cell? ⟨b, i, none⟩ = w.cell? ⟨b, i, none⟩ := fun i => World.cell?_of_block (a := ⟨b, i, none⟩) (k.block b hb (hd b hF))
  exact ⟨b, o, rfl, hF, Nat.lt_of_lt_of_le hb k.size, fun k x hx => by rw [e, e, e]; exact hc k x hx⟩
theorem RdA.mono {F G : Nat → Prop} {w : World} {v : Value} {l : List A3} (h : RdA F w v l) (hG : ∀ g, F g → G g) : RdA G w v l := by
  obtain ⟨A, c, rfl, hle, h⟩ := h
  refine ⟨A, c, rfl, hle, fun hne => ?_⟩
  obtain ⟨b, o, rfl, hF, r⟩ := h hne
  exact ⟨b, o, rfl, hG _ hF, r⟩
/-- A slice of the call's own. -/
def OwnA (base : Nat) (w : World) (v : Value) (l : List A3) : Prop := w.ownsRow base 48 3 v l.length (actsC l)
theorem OwnA.rd {base : Nat} {w : World} {v : Value} {l : List A3} (h : OwnA base w v l) : RdA (fun g => base ≤ g) w v l := by
  rcases h.2 with ⟨rfl, h2⟩ | ⟨g, cap, cur, rfl, hb, hh, hc, _, _, ht⟩
  · exact ⟨none, 0, by rw [h2], Nat.le_of_eq h2, fun hne => absurd (List.eq_nil_of_length_eq_zero h2) hne⟩
  · refine ⟨_, _, rfl, hc, fun _ => ⟨g, 0, rfl, hb, (Array.getElem?_eq_some_iff.1 hh).1, fun k x hx => ?_⟩⟩
    have hlt : k < l.length := (List.getElem?_eq_some_iff.1 hx).1
    have e : ∀ j, j < l.length * 3 → w.cell? ⟨g, 0 + j, none⟩ = (actsC l)[j]? := fun j hj => by
      rw [Nat.zero_add, cell_of_row w g j cur _ _ hh, ← ht, List.getElem?_take, if_pos hj, Array.getElem?_toList]
    obtain ⟨q0, q1, q2⟩ := actsC_get l k x hx
    exact ⟨(e _ (by omega)).trans q0, (e _ (by omega)).trans q1, (e _ (by omega)).trans q2⟩
def SameRel (n : Nat) (i : Value) : Prop := ∃ k : Nat, k ≤ n ∧ i = .int .i64 k
set_option maxHeartbeats 4000000 in
theorem same_any (F G : Nat → Prop) (u v : Value) (l : List A3) (W : World) (hu : RdA F W u l) (hv : RdA G W v l) (hm : l.length ≤ 1000000000) :
    Calls Try.prog 14 #[u, v] W fun e w' => e = .returned (.bool true) ∧ Below W.heap.size W w' := by
  obtain ⟨A, c, rfl, _, hu⟩ := hu
  obtain ⟨A', c', rfl, _, hv⟩ := hv
  rcases List.eq_nil_or_concat l with rfl | ⟨l0, x0, he⟩
  · go_enter Try.func14, Try.ntmps14
    go_wp2_with fail
    go_loop [13] (fun i => i = .int .i64 0) (fun _ => 0)
    case atStart => rfl
    case round =>
      subst hrel
      go_wp2
      go_ret
      exact ⟨rfl, Below.refl _ _⟩
  · have hne : l ≠ [] := by rw [he]; simp
    clear he
    obtain ⟨b, o, rfl, _, hb, hc⟩ := hu hne
    obtain ⟨b', o', rfl, _, hb', hc'⟩ := hv hne
    have HC := Lib.hid hc
    have HC' := Lib.hid hc'
    clear hu hv hc hc' hne
    generalize hn : l.length = n at *
    have HN := Lib.hid hn
    clear hn
    go_enter Try.func14, Try.ntmps14
    go_wp2_with fail
    go_loopw [13] (fun i wr => SameRel n i ∧ Below W.heap.size W wr) (fun i _ => n - (intOf i).toNat)
    case atStart => exact ⟨⟨0, by omega, rfl⟩, Below.refl _ _⟩
    case round =>
      obtain ⟨⟨k, hk, rfl⟩, hbw⟩ := hrel
      have HW := Lib.hid hbw
      clear hbw
      by_cases hkl : k < n
      · have hl : k < l.length := by rw [HN.out]; exact hkl
        obtain ⟨x, hx⟩ : ∃ x, l[k]? = some x := ⟨_, List.getElem?_eq_getElem hl⟩
        have HX := Lib.hid hx
        clear hl hx
        go_wp2_with fail
        have s := fun W' (h : Ext wr.drew W') => (Below.trans HW.out.drew (h.mono HW.out.size))
        have s0 := fun W' (h : Ext wr.drew W') => ((s W' h).cell (p := ⟨b, o + k * 3, none⟩) hb).trans (HC.out k x HX.out).1
        have s1 := fun W' (h : Ext wr.drew W') => ((s W' h).cell (p := ⟨b, o + k * 3 + 1, none⟩) hb).trans (HC.out k x HX.out).2.1
        have s2 := fun W' (h : Ext wr.drew W') => ((s W' h).cell (p := ⟨b, o + k * 3 + 2, none⟩) hb).trans (HC.out k x HX.out).2.2
        have s3 := fun W' (h : Ext wr.drew W') => ((s W' h).cell (p := ⟨b', o' + k * 3, none⟩) hb').trans (HC'.out k x HX.out).1
        have s4 := fun W' (h : Ext wr.drew W') => ((s W' h).cell (p := ⟨b', o' + k * 3 + 1, none⟩) hb').trans (HC'.out k x HX.out).2.1
        have s5 := fun W' (h : Ext wr.drew W') => ((s W' h).cell (p := ⟨b', o' + k * 3 + 2, none⟩) hb').trans (HC'.out k x HX.out).2.2
        refine wp_region_plan [(0, false), (1, false), (2, false), (3, false), (4, false), (5, false), (6, false), (7, false), (8, false)] (by kernel_rfl) (by kernel_rfl) (fun _ d _ _ _ h => by cases d <;> exact h) ?_
        iterate 9 (refine plan_take (v := ?_) rfl (by kernel_rfl) ?_ ?_; rotate_left; (focus (intro w' hw'; go_simp; try with_reducible rfl)); simp only [Act.put, List.setIfInBounds_toArray, List.set_cons_zero, List.set_cons_succ])
        clear s s0 s1 s2 s3 s4 s5
        refine plan_end ?_
        go_wp2_with fail
        go_roundw
        case rel => exact ⟨⟨k + 1, hkl, by go_num⟩, HW.out.drew⟩
        case measure => simp [intOf]; omega
      · obtain rfl : k = n := by omega
        go_wp2
        go_ret
        exact ⟨rfl, HW.out⟩
theorem info_act : (Try.prog.info? 48).map (fun i => (i.zero, i.size, i.bytes)) = some (some (.agg #[.int .i64 0, .int .i64 0, .int .i64 0]), 3, 24) := by kernel_rfl
theorem one_act (x : A3) : ∀ u ∈ actC x, u.oneCell' = true := by
  intro u hu
  simp [actC] at hu
  rcases hu with rfl | rfl | rfl <;> rfl
theorem reads_act (w : World) (t : TypeId) (x : A3) : Reads (w.alloc (.cells #[.int .i64 x.1, .int .i64 x.2.1, .int .i64 x.2.2] t)) (w.heap.size + 1) 3 (some ⟨w.heap.size, 0, none⟩) 1 (actC x) :=
  ⟨rfl, fun _ => ⟨_, rfl, Nat.lt_succ_self _, fun j v hj => by
    have hb := Blkf.new_at w t (0, 0) #[.int .i64 x.1, .int .i64 x.2.1, .int .i64 x.2.2] rfl
    match j, hj with
    | 0, hj => exact (hb.cell 0).trans hj
    | 1, hj => exact (hb.cell 1).trans hj
    | 2, hj => exact (hb.cell 2).trans hj
    | j + 3, hj => simp [actC] at hj⟩⟩
/-- The acts of rounds. -/
def roundL (n d : Nat) : List A3 := (List.range n).map (fun i : Nat => ((0, (i : Int), 0) : A3)) ++ List.replicate d (1, 0, 0) ++ [(6, 0, 0)]
def roundsL (n r d : Nat) : List A3 := (List.replicate r (roundL n d)).flatten
theorem roundL_len (n d : Nat) : (roundL n d).length = n + d + 1 := by simp [roundL]; omega
theorem roundsL_len (n r d : Nat) : (roundsL n r d).length = r * (n + d + 1) := by simp [roundsL, roundL_len]
theorem roundsL_succ (n r d : Nat) : roundsL n (r + 1) d = roundsL n r d ++ roundL n d := by simp [roundsL, List.replicate_succ']
theorem range_map_succ (n : Nat) : (List.range (n + 1)).map (fun i : Nat => ((0, (i : Int), 0) : A3)) = (List.range n).map (fun i : Nat => ((0, (i : Int), 0) : A3)) ++ [(0, (n : Int), 0)] := by simp [List.range_succ]
end Go.Proofs.Ytkiicgdfibncfaa
