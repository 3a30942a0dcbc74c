/- Split. -/
import Derived.Test.YtkiicgdfibncfaaSchK
namespace Go.Proofs.Ytkiicgdfibncfaa
open Go.RowKit

theorem row_sliceS {w : World} {base s n : Nat} {e : TypeId} {v : Value} {xs : List Value} (h : w.ownsRow base e s v n xs) : ∃ A c, v = .slice A n c := by
  rcases h.2 with ⟨rfl, rfl⟩ | ⟨g, cap, _, rfl, _⟩
  · exact ⟨_, _, rfl⟩
  · exact ⟨_, _, rfl⟩
/-- In which part an act goes. -/
def idx (n : Nat) (x : A3) : Nat := if x.1 = 0 ∧ 0 ≤ x.2.1 ∧ x.2.1 < n then x.2.1.toNat else n
def part (n : Nat) (l : List A3) (i : Nat) : List A3 := l.filter (fun x => idx n x == i)
def splitL (n : Nat) (l : List A3) : List (List A3) := (List.range (n + 1)).map (part n l)
theorem idx_le (n : Nat) (x : A3) : idx n x ≤ n := by unfold idx; split <;> omega
theorem part_snoc (n : Nat) (l : List A3) (x : A3) (i : Nat) : part n (l ++ [x]) i = if idx n x = i then part n l i ++ [x] else part n l i := by
  unfold part
  rw [List.filter_append]
  by_cases h : idx n x = i
  · rw [if_pos h]; congr 1; simp [h]
  · rw [if_neg h]
    have : List.filter (fun x => idx n x == i) [x] = [] := by simp [h]
    rw [this, List.append_nil]
theorem subs_split (n : Nat) (l : List A3) (i : Nat) (hi : i ≤ n) : subs (splitL n l) i = part n l i := by
  unfold subs splitL
  rw [List.getD_eq_getElem?_getD, List.getElem?_map, List.getElem?_range (by omega)]
  rfl
/-- The parts, of the call's own. -/
structure Parts (base lb : Nat) (w : World) (n : Nat) (l : List A3) (vs : List Value) : Prop where
  row : w.ownsRow base 34 1 (.slice (some ⟨lb, 0, none⟩) (n + 1) (n + 1)) (n + 1) vs
  own : ∀ i, i ≤ n → ∃ v, vs[i]? = some v ∧ OwnA base w v (part n l i)
  apart : ∀ (i j : Nat) (v v' : Value), i ≠ j → vs[i]? = some v → vs[j]? = some v' → ∀ g, v.ownBlock = some g → v'.ownBlock ≠ some g
theorem Parts.keeps {base lb : Nat} {w w' : World} {n : Nat} {l : List A3} {vs : List Value} {F : Nat → Prop} (h : Parts base lb w n l vs) (k : Keeps F w w') (hF : ∀ g, F g → w.heap.size ≤ g) : Parts base lb w' n l vs := by
  have hb : ∀ {e : TypeId} {s m : Nat} {v : Value} {xs : List Value}, w.ownsRow base e s v m xs → w'.ownsRow base e s v m xs := fun ho => k.row ho (fun g hg hf => by have := (ho.lt g hg).2; have := hF g hf; omega)
  exact ⟨hb h.row, fun i hi => by obtain ⟨v, hv, ho⟩ := h.own i hi; exact ⟨v, hv, hb ho⟩, h.apart⟩
theorem Parts.step {base lb : Nat} {w w6 : World} {n : Nat} {l : List A3} {vs : List Value} {x : A3} {q : Nat} {v v6 : Value} {o : Obj} (h : Parts base lb w n l vs) (hq : idx n x = q) (hv : vs[q]? = some v)
    (hown : w6.ownsRow base 48 3 v6 ((part n l q).length + 1) (actsC (part n l q) ++ actC x)) (hg : (w.alloc o).grownBy w6 v.ownBlock) (hat : v6.ownBlock = v.ownBlock ∨ v6.ownBlock = some (w.alloc o).heap.size) :
    Parts base lb (w6.setCell ⟨lb, q, none⟩ v6) n (l ++ [x]) (vs.set q v6) := by
  have hqn : q ≤ n := by rw [← hq]; exact idx_le n x
  obtain ⟨v', hv', hov⟩ := h.own q hqn
  rw [hv] at hv'
  injection hv' with hv'
  subst hv'
  have hrow6 : w6.ownsRow base 34 1 (.slice (some ⟨lb, 0, none⟩) (n + 1) (n + 1)) (n + 1) vs := World.ownsRow.kept (h.row.alloc o) hg (rows_ne' h.row hov (by decide))
  have hst := hrow6.stored q v6
  have hn6 : OwnA base w6 v6 (part n l q ++ [x]) := by
    unfold OwnA
    rw [actsC_append, List.length_append]
    simpa [actsC] using hown
  have hlen : vs.length = n + 1 := by have := h.row.1; omega
  refine ⟨hst.1, fun i hi => ?_, ?_⟩
  · by_cases hiq : q = i
    · subst hiq
      refine ⟨v6, List.getElem?_set_self (by omega), ?_⟩
      rw [part_snoc, if_pos hq]
      exact hn6.kept hst.2 (rows_ne' hn6 hrow6 (by decide))
    · obtain ⟨u, hu, hou⟩ := h.own i hi
      refine ⟨u, by rw [List.getElem?_set_ne hiq]; exact hu, ?_⟩
      rw [part_snoc, if_neg (by rw [hq]; exact hiq)]
      have hou6 : OwnA base w6 u (part n l i) := World.ownsRow.kept (hou.alloc o) hg (by
        cases hub : u.ownBlock with
        | none => exact .inl rfl
        | some g => exact .inr (fun e => h.apart i q u v (fun e => hiq e.symm) hu hv g hub e.symm))
      exact hou6.kept hst.2 (rows_ne' hou6 hrow6 (by decide))
  · intro i j a b hij ha hb g hga hgb
    have hnew : ∀ (k : Nat) (u : Value), k ≠ q → vs[k]? = some u → ∀ g, u.ownBlock = some g → v6.ownBlock ≠ some g := by
      intro k u hk hu g hg1 hg2
      rcases hat with e | e
      · rw [e] at hg2; exact h.apart k q u v hk hu hv g hg1 hg2
      · rw [e] at hg2
        have hkn : k ≤ n := by have := (List.getElem?_eq_some_iff.1 hu).1; omega
        obtain ⟨u', hu', hou⟩ := h.own k hkn
        rw [hu] at hu'
        injection hu' with hu'
        subst hu'
        have h1 := (hou.lt g hg1).2
        have h2 : w.heap.size + 1 = g := by simpa using hg2
        omega
    by_cases hiq : q = i
    · subst hiq
      rw [List.getElem?_set_self (by omega)] at ha
      injection ha with ha
      subst ha
      rw [List.getElem?_set_ne hij] at hb
      exact hnew j b (fun e => hij e.symm) hb g hgb hga
    · rw [List.getElem?_set_ne hiq] at ha
      by_cases hjq : q = j
      · subst hjq
        rw [List.getElem?_set_self (by omega)] at hb
        injection hb with hb
        subst hb
        exact hnew i a hij ha g hga hgb
      · rw [List.getElem?_set_ne hjq] at hb
        exact h.apart i j a b hij ha hb g hga hgb
theorem Parts.rd {base lb : Nat} {w : World} {n : Nat} {l : List A3} {vs : List Value} (h : Parts base lb w n l vs) : RdLL w.heap.size w (.slice (some ⟨lb, 0, none⟩) (n + 1) (n + 1)) (splitL n l) := by
  have hl : (splitL n l).length = n + 1 := by simp [splitL]
  refine ⟨some ⟨lb, 0, none⟩, n + 1, vs, by rw [hl], by rw [hl]; exact Reads.of_own h.row, by rw [hl]; have := h.row.1; omega, fun i hi => ?_⟩
  obtain ⟨v, hv, ho⟩ := h.own i (by omega)
  refine ⟨v, hv, ?_⟩
  rw [subs_split n l i (by omega)]
  obtain ⟨A, c, hve, hle, hr⟩ := ho.rd
  refine ⟨A, c, hve, hle, fun hne => ?_⟩
  obtain ⟨b, o, h1, h2, h3, h4⟩ := hr hne
  exact ⟨b, o, h1, h3, h3, h4⟩
def SplRel (W : World) (lb n : Nat) (l : List A3) (k : Nat) (wr : World) : Prop := (∃ vs, Parts W.heap.size lb wr n (l.take k) vs) ∧ Below W.heap.size W wr
theorem clamp16 (M : Nat) : (if (16 : Int) < (M : Int) then (16 : Int) else (M : Int)) = ((min M 16 : Nat) : Int) := by split <;> omega
set_option maxHeartbeats 4000000 in
theorem split_any (v : Value) (nodes : Int) (l : List A3) (W : World) (h : RdA (fun g => g < W.heap.size) W v l) (hm : l.length ≤ 100000) :
    Calls Try.prog 21 #[v, .int .i64 nodes] W fun e w' => ∃ u, e = .returned u ∧ ∃ lb vs, u = .slice (some ⟨lb, 0, none⟩) (min nodes.toNat 16 + 1) (min nodes.toNat 16 + 1) ∧ Parts W.heap.size lb w' (min nodes.toNat 16) l vs ∧ Below W.heap.size W w' := by
  obtain ⟨A, c, rfl, _, hr⟩ := h
  obtain ⟨i0, hi0, hz0, hz1, hz2⟩ := info_parts info_act
  obtain ⟨j0, hj0, hy0, hy1, hy2⟩ := info_parts info_acts
  have HR := Lib.hid hr
  have m1 := clamp (a := nodes) rfl
  have m2 := clamp16 nodes.toNat
  have hN16 : min nodes.toNat 16 ≤ 16 := by omega
  generalize min nodes.toNat 16 = N at *
  generalize nodes.toNat = M at *
  have hmk : ∀ W, (Instr.makeSlice 41 (.int .i64 ((N : Int) + 1)) (.int .i64 ((N : Int) + 1))).run Try.prog W = .ok (.slice (some ⟨W.heap.size, 0, none⟩) (N + 1) (N + 1)) (W.alloc (.cells (madeCells #[Value.slice none 0 0] (N + 1)) 34)) := fun W => by
    have h := run_make (P := Try.prog) W 41 34 j0 _ Try.underlying41 hj0 hy0 .i64 .i64 ((N : Int) + 1) ((N : Int) + 1) (by omega) (by omega) (by rw [hy2]; omega) (by omega)
    rw [hy1] at h
    have e : ((N : Int) + 1).toNat = N + 1 := by omega
    rw [e] at h
    simpa [Value.cells] using h
  have HMC : Hid (∀ w : World, Parts w.heap.size w.heap.size (w.alloc (.cells (madeCells #[Value.slice none 0 0] (N + 1)) 34)) N [] (List.replicate (N + 1) (Value.slice none 0 0))) := Lib.hid (fun w => by
    have hml := toList_madeCells_one (Value.slice none 0 0) (N + 1)
    have hms : (madeCells #[Value.slice none 0 0] (N + 1)).size = N + 1 := by rw [← Array.length_toList, hml]; simp
    refine ⟨⟨by simp, .inr ⟨_, _, _, rfl, Nat.le_refl _, heap_alloc_new w _, Nat.le_refl _, by unfold maxLen; omega, by rw [hms]; omega, by rw [hml]; simp⟩⟩, fun i hi => ⟨.slice none 0 0, ?_, World.ownsRow_nil _ _ _ _⟩, fun i j a b _ ha hb g hg => ?_⟩
    · rw [List.getElem?_replicate, if_pos (by omega)]
    · have := List.mem_of_getElem? ha
      rw [List.eq_of_mem_replicate this] at hg
      simp [Value.ownBlock] at hg)
  obtain ⟨n, hn⟩ : ∃ n, n = l.length := ⟨_, rfl⟩
  have HL := Lib.hid hn
  rw [← hn] at hm ⊢
  clear hn hr
  go_enter Try.func21, Try.ntmps21
  go_wp2_with fail
  go_loopw [17] (fun i wr => ∃ k : Nat, k ≤ n ∧ i = .int .i64 k ∧ SplRel W W.heap.size N l k wr) (fun i _ => n - (intOf i).toNat)
  case atStart => exact ⟨0, by omega, rfl, ⟨_, HMC.out W⟩, (Below.refl _ W).alloc (Nat.le_refl _) _⟩
  case round =>
    obtain ⟨k, hk, rfl, ⟨vs, hP⟩, hbw⟩ := hrel
    have HP := Lib.hid hP
    have HW := Lib.hid hbw
    have hlb2 : W.heap.size < wr.heap.size := (hP.row.lt _ rfl).2
    clear hP hbw
    by_cases hkl : k < n
    · have hlk : k < l.length := by rw [← HL.out]; exact hkl
      obtain ⟨b, o, rfl, hbB, hbl, hcs⟩ := HR.out (by intro e; rw [e] at hlk; simp at hlk)
      obtain ⟨x, hx⟩ : ∃ x, l[k]? = some x := ⟨_, List.getElem?_eq_getElem hlk⟩
      obtain ⟨d0, d1, d2⟩ := hcs k x hx
      have e : ∀ i, wr.cell? ⟨b, i, none⟩ = W.cell? ⟨b, i, none⟩ := fun i => HW.out.cell (p := ⟨b, i, none⟩) hbB
      rw [← e] at d0 d1 d2
      have hbr : b < wr.heap.size := Nat.lt_of_lt_of_le hbB HW.out.size
      have HTK : Hid (l.take (k + 1) = l.take k ++ [x]) := Lib.hid (by rw [List.take_add_one, hx]; rfl)
      clear e hcs hx hlk
      obtain ⟨xa, xb, xc⟩ := x
      by_cases ha : xa = 0
      · subst ha
        by_cases hb0 : 0 ≤ xb
        · by_cases hb1 : xb < N
          · obtain ⟨q, rfl⟩ : ∃ q : Nat, xb = q := ⟨xb.toNat, by omega⟩
            have HID : Hid (idx N ((0, (q : Int), xc) : A3) = q) := Lib.hid (by unfold idx; rw [if_pos ⟨rfl, hb0, hb1⟩]; simp)
            have hqN : q < N := by omega
            obtain ⟨u, hu, hov⟩ := HP.out.own q (by omega)
            have HOV := Lib.hid hov
            clear hov
            obtain ⟨A2, c2, rfl, _, _⟩ := (show OwnA W.heap.size wr u (part N (l.take k) q) from HOV.out).rd
            have hlen9 : (part N (l.take k) q).length ≤ 100000 := Nat.le_trans (List.length_filter_le _ _) (Nat.le_trans (List.length_take_le _ _) (by omega))
            have hX := Blkf.new_at wr 48 (0, 0) #[.int .i64 (0), .int .i64 ((q : Int)), .int .i64 xc] rfl
            have hP2 := HP.out.keeps (((Keeps.refl (fun _ => False) wr).alloc (.cells #[.int .i64 (0), .int .i64 ((q : Int)), .int .i64 xc] 48)).drew) (fun _ h => h.elim)
            have hcell := hP2.row.cellAt q (by omega)
            have hlb3 := (hP2.row.lt _ rfl).2
            rw [hu] at hcell
            have HP2 := Lib.hid hP2
            have hneX : wr.heap.size ≠ W.heap.size := by omega
            have HU := Lib.hid hu
            have s3 := fun W' (h : Keeps (fun g => W.heap.size < g ∧ g ≠ wr.heap.size) ((wr.alloc (.cells #[.int .i64 (0), .int .i64 ((q : Int)), .int .i64 xc] 48)).drew) W') => (World.cell?_of_block (a := ⟨W.heap.size, q, none⟩) (h.block _ hlb3 (fun e => Nat.lt_irrefl _ e.1))).trans hcell
            have s0 := fun W' (h : Keeps (fun g => W.heap.size < g ∧ g ≠ wr.heap.size) ((wr.alloc (.cells #[.int .i64 (0), .int .i64 ((q : Int)), .int .i64 xc] 48)).drew) W') => (h.blk hX.drew (fun e => e.2 rfl)).cell 0
            have s1 := fun W' (h : Keeps (fun g => W.heap.size < g ∧ g ≠ wr.heap.size) ((wr.alloc (.cells #[.int .i64 (0), .int .i64 ((q : Int)), .int .i64 xc] 48)).drew) W') => (h.blk hX.drew (fun e => e.2 rfl)).cell 1
            have s2 := fun W' (h : Keeps (fun g => W.heap.size < g ∧ g ≠ wr.heap.size) ((wr.alloc (.cells #[.int .i64 (0), .int .i64 ((q : Int)), .int .i64 xc] 48)).drew) W') => (h.blk hX.drew (fun e => e.2 rfl)).cell 2
            clear hX hP2 hu hcell
            have hqi : ((q : Nat) : Int) < (N : Int) + 1 := by omega
            go_wp2_with fail
            refine wp_region_plan_by (Keeps (fun g => W.heap.size < g ∧ g ≠ wr.heap.size)) ⟨Keeps.refl _, Keeps.same⟩ [(0, false), (1, false), (2, false), (3, false), (4, false), (5, false), (6, false), (7, true), (8, true), (9, false), (10, true)] (by kernel_rfl) (by kernel_rfl) (fun _ d _ _ _ h => by cases d <;> exact h) ?_
            iterate 7 (refine plan_take (v := ?_) rfl (by kernel_rfl) ?_ ?_; rotate_left; (focus (intro w' hw'; go_simp; try with_reducible rfl)); simp only [Act.put, List.setIfInBounds_toArray, List.set_cons_zero, List.set_cons_succ])
            clear s0 s1 s2 s3
            have HOd := Lib.hid (((Keeps.refl (fun _ => False) wr).alloc (.cells #[.int .i64 (0), .int .i64 ((q : Int)), .int .i64 xc] 48)).drew.row HOV.out (fun _ _ h => h))
            refine plan_turn rfl (by kernel_rfl) (fun K hK => ?_)
            go_simp
            refine hK _ _ ⟨(Keeps.refl _ _).alloc _, ?_⟩
            clear hK K
            refine plan_turn rfl (by kernel_rfl) (fun K hK => ?_)
            refine wp_append_any _ (.tmp 43) (.tmp 45) _ rfl W.heap.size 48 i0 _ 3 24 Try.underlying34 hi0 hz0 hz1 hz2 rfl (by decide) _ (part N (l.take k) q).length (actsC (part N (l.take k) q)) rfl (HOd.out.alloc _) (wr.heap.size + 1 + 1) (some ⟨wr.heap.size + 1, 0, none⟩) 1 1 (actC ((0, (q : Int), xc) : A3)) rfl (reads_at ((wr.alloc (.cells #[.int .i64 (0), .int .i64 ((q : Int)), .int .i64 xc] 48)).drew) _ ((0, (q : Int), xc) : A3) (wr.heap.size + 1) (by simp)) (one_act _) (by unfold maxLen; omega) (by omega) (by simp; omega) ?_
            intro v6 w6 hown hgrow hat
            obtain ⟨A6, c6, rfl⟩ := row_sliceS hown
            have HST := Lib.hid (HP2.out.step HID.out HU.out hown hgrow hat)
            have hrow6 := World.ownsRow.kept (HP2.out.row.alloc _) hgrow (rows_ne' HP2.out.row HOd.out (by decide))
            have hlbc := (hrow6.cellAt q (by omega)).trans HU.out
            have hlbf := hrow6.frozenAt q
            have hlbl := (hrow6.lt _ rfl).2
            have hblk : ∀ g, (Value.slice A2 (part N (l.take k) q).length c2).ownBlock = some g → W.heap.size < g ∧ g ≠ wr.heap.size := fun g hg => by
              have h1 := HOV.out.lt g hg
              have h2 := rows_ne HOV.out HP.out.row (by decide) g hg
              have h3 : W.heap.size ≠ g := fun e => h2 (by simp [Value.ownBlock, e])
              omega
            have hw1 : Below W.heap.size W ((wr.alloc (.cells #[.int .i64 (0), .int .i64 ((q : Int)), .int .i64 xc] 48)).drew) := (HW.out.alloc (Nat.le_of_lt hlb2) (.cells #[.int .i64 (0), .int .i64 ((q : Int)), .int .i64 xc] 48)).drew
            have hw2 : Below W.heap.size W (((wr.alloc (.cells #[.int .i64 (0), .int .i64 ((q : Int)), .int .i64 xc] 48)).drew).alloc (.cells #[.int .i64 (0), .int .i64 ((q : Int)), .int .i64 xc] 48)) := hw1.alloc hw1.size _
            have HBL := Lib.hid (hw2.grown hgrow hw2.size (fun g hg => Nat.le_of_lt (hblk g hg).1))
            refine hK _ _ ⟨(Keeps.refl _ _).grown hgrow (fun g hg => .inl (hblk g hg)), ?_⟩
            clear hK K hown hgrow hat hrow6 hblk hw1 hw2
            simp only [Act.put, List.setIfInBounds_toArray, List.set_cons_zero, List.set_cons_succ]
            iterate 1 (refine plan_take (v := ?_) rfl (by kernel_rfl) ?_ ?_; rotate_left; (focus (intro w' hw'; go_simp; try with_reducible rfl)); simp only [Act.put, List.setIfInBounds_toArray, List.set_cons_zero, List.set_cons_succ])
            refine plan_last rfl (by kernel_rfl) (by kernel_rfl) (fun K hK => ?_)
            go_simp
            refine hK _ _ ?_
            clear hK K
            refine plan_end ?_
            go_wp2_with fail
            go_roundw
            case rel => exact ⟨k + 1, hkl, by go_num, ⟨_, by rw [HTK.out]; exact HST.out⟩, HBL.out.setCell (p := ⟨W.heap.size, q, none⟩) (Nat.le_refl _) _⟩
            case measure => simp [intOf]; omega
          · have HID : Hid (idx N ((0, xb, xc) : A3) = N) := Lib.hid (by unfold idx; rw [if_neg (fun h => hb1 h.2.2)])
            obtain ⟨u, hu, hov⟩ := HP.out.own N (by omega)
            have HOV := Lib.hid hov
            clear hov
            obtain ⟨A2, c2, rfl, _, _⟩ := (show OwnA W.heap.size wr u (part N (l.take k) N) from HOV.out).rd
            have hlen9 : (part N (l.take k) N).length ≤ 100000 := Nat.le_trans (List.length_filter_le _ _) (Nat.le_trans (List.length_take_le _ _) (by omega))
            have hX := Blkf.new_at wr 48 (0, 0) #[.int .i64 (0), .int .i64 (xb), .int .i64 xc] rfl
            have hP2 := HP.out.keeps (((Keeps.refl (fun _ => False) wr).alloc (.cells #[.int .i64 (0), .int .i64 (xb), .int .i64 xc] 48)).drew) (fun _ h => h.elim)
            have hcell := hP2.row.cellAt N (by omega)
            have hlb3 := (hP2.row.lt _ rfl).2
            rw [hu] at hcell
            have HP2 := Lib.hid hP2
            have hneX : wr.heap.size ≠ W.heap.size := by omega
            have HU := Lib.hid hu
            have s3 := fun W' (h : Keeps (fun g => W.heap.size < g ∧ g ≠ wr.heap.size) ((wr.alloc (.cells #[.int .i64 (0), .int .i64 (xb), .int .i64 xc] 48)).drew) W') => (World.cell?_of_block (a := ⟨W.heap.size, N, none⟩) (h.block _ hlb3 (fun e => Nat.lt_irrefl _ e.1))).trans hcell
            have s0 := fun W' (h : Keeps (fun g => W.heap.size < g ∧ g ≠ wr.heap.size) ((wr.alloc (.cells #[.int .i64 (0), .int .i64 (xb), .int .i64 xc] 48)).drew) W') => (h.blk hX.drew (fun e => e.2 rfl)).cell 0
            have s1 := fun W' (h : Keeps (fun g => W.heap.size < g ∧ g ≠ wr.heap.size) ((wr.alloc (.cells #[.int .i64 (0), .int .i64 (xb), .int .i64 xc] 48)).drew) W') => (h.blk hX.drew (fun e => e.2 rfl)).cell 1
            have s2 := fun W' (h : Keeps (fun g => W.heap.size < g ∧ g ≠ wr.heap.size) ((wr.alloc (.cells #[.int .i64 (0), .int .i64 (xb), .int .i64 xc] 48)).drew) W') => (h.blk hX.drew (fun e => e.2 rfl)).cell 2
            clear hX hP2 hu hcell
            have hqi : ((N : Nat) : Int) < (N : Int) + 1 := by omega
            go_wp2_with fail
            refine wp_region_plan_by (Keeps (fun g => W.heap.size < g ∧ g ≠ wr.heap.size)) ⟨Keeps.refl _, Keeps.same⟩ [(0, false), (1, false), (2, false), (3, false), (4, false), (5, false), (6, false), (7, true), (8, true), (9, false), (10, true)] (by kernel_rfl) (by kernel_rfl) (fun _ d _ _ _ h => by cases d <;> exact h) ?_
            iterate 7 (refine plan_take (v := ?_) rfl (by kernel_rfl) ?_ ?_; rotate_left; (focus (intro w' hw'; go_simp; try with_reducible rfl)); simp only [Act.put, List.setIfInBounds_toArray, List.set_cons_zero, List.set_cons_succ])
            clear s0 s1 s2 s3
            have HOd := Lib.hid (((Keeps.refl (fun _ => False) wr).alloc (.cells #[.int .i64 (0), .int .i64 (xb), .int .i64 xc] 48)).drew.row HOV.out (fun _ _ h => h))
            refine plan_turn rfl (by kernel_rfl) (fun K hK => ?_)
            go_simp
            refine hK _ _ ⟨(Keeps.refl _ _).alloc _, ?_⟩
            clear hK K
            refine plan_turn rfl (by kernel_rfl) (fun K hK => ?_)
            refine wp_append_any _ (.tmp 43) (.tmp 45) _ rfl W.heap.size 48 i0 _ 3 24 Try.underlying34 hi0 hz0 hz1 hz2 rfl (by decide) _ (part N (l.take k) N).length (actsC (part N (l.take k) N)) rfl (HOd.out.alloc _) (wr.heap.size + 1 + 1) (some ⟨wr.heap.size + 1, 0, none⟩) 1 1 (actC ((0, xb, xc) : A3)) rfl (reads_at ((wr.alloc (.cells #[.int .i64 (0), .int .i64 (xb), .int .i64 xc] 48)).drew) _ ((0, xb, xc) : A3) (wr.heap.size + 1) (by simp)) (one_act _) (by unfold maxLen; omega) (by omega) (by simp; omega) ?_
            intro v6 w6 hown hgrow hat
            obtain ⟨A6, c6, rfl⟩ := row_sliceS hown
            have HST := Lib.hid (HP2.out.step HID.out HU.out hown hgrow hat)
            have hrow6 := World.ownsRow.kept (HP2.out.row.alloc _) hgrow (rows_ne' HP2.out.row HOd.out (by decide))
            have hlbc := (hrow6.cellAt N (by omega)).trans HU.out
            have hlbf := hrow6.frozenAt N
            have hlbl := (hrow6.lt _ rfl).2
            have hblk : ∀ g, (Value.slice A2 (part N (l.take k) N).length c2).ownBlock = some g → W.heap.size < g ∧ g ≠ wr.heap.size := fun g hg => by
              have h1 := HOV.out.lt g hg
              have h2 := rows_ne HOV.out HP.out.row (by decide) g hg
              have h3 : W.heap.size ≠ g := fun e => h2 (by simp [Value.ownBlock, e])
              omega
            have hw1 : Below W.heap.size W ((wr.alloc (.cells #[.int .i64 (0), .int .i64 (xb), .int .i64 xc] 48)).drew) := (HW.out.alloc (Nat.le_of_lt hlb2) (.cells #[.int .i64 (0), .int .i64 (xb), .int .i64 xc] 48)).drew
            have hw2 : Below W.heap.size W (((wr.alloc (.cells #[.int .i64 (0), .int .i64 (xb), .int .i64 xc] 48)).drew).alloc (.cells #[.int .i64 (0), .int .i64 (xb), .int .i64 xc] 48)) := hw1.alloc hw1.size _
            have HBL := Lib.hid (hw2.grown hgrow hw2.size (fun g hg => Nat.le_of_lt (hblk g hg).1))
            refine hK _ _ ⟨(Keeps.refl _ _).grown hgrow (fun g hg => .inl (hblk g hg)), ?_⟩
            clear hK K hown hgrow hat hrow6 hblk hw1 hw2
            simp only [Act.put, List.setIfInBounds_toArray, List.set_cons_zero, List.set_cons_succ]
            iterate 1 (refine plan_take (v := ?_) rfl (by kernel_rfl) ?_ ?_; rotate_left; (focus (intro w' hw'; go_simp; try with_reducible rfl)); simp only [Act.put, List.setIfInBounds_toArray, List.set_cons_zero, List.set_cons_succ])
            refine plan_last rfl (by kernel_rfl) (by kernel_rfl) (fun K hK => ?_)
            go_simp
            refine hK _ _ ?_
            clear hK K
            refine plan_end ?_
            go_wp2_with fail
            go_roundw
            case rel => exact ⟨k + 1, hkl, by go_num, ⟨_, by rw [HTK.out]; exact HST.out⟩, HBL.out.setCell (p := ⟨W.heap.size, N, none⟩) (Nat.le_refl _) _⟩
            case measure => simp [intOf]; omega
        · have HID : Hid (idx N ((0, xb, xc) : A3) = N) := Lib.hid (by unfold idx; rw [if_neg (fun h => hb0 h.2.1)])
          obtain ⟨u, hu, hov⟩ := HP.out.own N (by omega)
          have HOV := Lib.hid hov
          clear hov
          obtain ⟨A2, c2, rfl, _, _⟩ := (show OwnA W.heap.size wr u (part N (l.take k) N) from HOV.out).rd
          have hlen9 : (part N (l.take k) N).length ≤ 100000 := Nat.le_trans (List.length_filter_le _ _) (Nat.le_trans (List.length_take_le _ _) (by omega))
          have hX := Blkf.new_at wr 48 (0, 0) #[.int .i64 (0), .int .i64 (xb), .int .i64 xc] rfl
          have hP2 := HP.out.keeps (((Keeps.refl (fun _ => False) wr).alloc (.cells #[.int .i64 (0), .int .i64 (xb), .int .i64 xc] 48)).drew) (fun _ h => h.elim)
          have hcell := hP2.row.cellAt N (by omega)
          have hlb3 := (hP2.row.lt _ rfl).2
          rw [hu] at hcell
          have HP2 := Lib.hid hP2
          have hneX : wr.heap.size ≠ W.heap.size := by omega
          have HU := Lib.hid hu
          have s3 := fun W' (h : Keeps (fun g => W.heap.size < g ∧ g ≠ wr.heap.size) ((wr.alloc (.cells #[.int .i64 (0), .int .i64 (xb), .int .i64 xc] 48)).drew) W') => (World.cell?_of_block (a := ⟨W.heap.size, N, none⟩) (h.block _ hlb3 (fun e => Nat.lt_irrefl _ e.1))).trans hcell
          have s0 := fun W' (h : Keeps (fun g => W.heap.size < g ∧ g ≠ wr.heap.size) ((wr.alloc (.cells #[.int .i64 (0), .int .i64 (xb), .int .i64 xc] 48)).drew) W') => (h.blk hX.drew (fun e => e.2 rfl)).cell 0
          have s1 := fun W' (h : Keeps (fun g => W.heap.size < g ∧ g ≠ wr.heap.size) ((wr.alloc (.cells #[.int .i64 (0), .int .i64 (xb), .int .i64 xc] 48)).drew) W') => (h.blk hX.drew (fun e => e.2 rfl)).cell 1
          have s2 := fun W' (h : Keeps (fun g => W.heap.size < g ∧ g ≠ wr.heap.size) ((wr.alloc (.cells #[.int .i64 (0), .int .i64 (xb), .int .i64 xc] 48)).drew) W') => (h.blk hX.drew (fun e => e.2 rfl)).cell 2
          clear hX hP2 hu hcell
          have hqi : ((N : Nat) : Int) < (N : Int) + 1 := by omega
          go_wp2_with fail
          refine wp_region_plan_by (Keeps (fun g => W.heap.size < g ∧ g ≠ wr.heap.size)) ⟨Keeps.refl _, Keeps.same⟩ [(0, false), (1, false), (2, false), (3, false), (4, false), (5, false), (6, false), (7, true), (8, true), (9, false), (10, true)] (by kernel_rfl) (by kernel_rfl) (fun _ d _ _ _ h => by cases d <;> exact h) ?_
          iterate 7 (refine plan_take (v := ?_) rfl (by kernel_rfl) ?_ ?_; rotate_left; (focus (intro w' hw'; go_simp; try with_reducible rfl)); simp only [Act.put, List.setIfInBounds_toArray, List.set_cons_zero, List.set_cons_succ])
          clear s0 s1 s2 s3
          have HOd := Lib.hid (((Keeps.refl (fun _ => False) wr).alloc (.cells #[.int .i64 (0), .int .i64 (xb), .int .i64 xc] 48)).drew.row HOV.out (fun _ _ h => h))
          refine plan_turn rfl (by kernel_rfl) (fun K hK => ?_)
          go_simp
          refine hK _ _ ⟨(Keeps.refl _ _).alloc _, ?_⟩
          clear hK K
          refine plan_turn rfl (by kernel_rfl) (fun K hK => ?_)
          refine wp_append_any _ (.tmp 43) (.tmp 45) _ rfl W.heap.size 48 i0 _ 3 24 Try.underlying34 hi0 hz0 hz1 hz2 rfl (by decide) _ (part N (l.take k) N).length (actsC (part N (l.take k) N)) rfl (HOd.out.alloc _) (wr.heap.size + 1 + 1) (some ⟨wr.heap.size + 1, 0, none⟩) 1 1 (actC ((0, xb, xc) : A3)) rfl (reads_at ((wr.alloc (.cells #[.int .i64 (0), .int .i64 (xb), .int .i64 xc] 48)).drew) _ ((0, xb, xc) : A3) (wr.heap.size + 1) (by simp)) (one_act _) (by unfold maxLen; omega) (by omega) (by simp; omega) ?_
          intro v6 w6 hown hgrow hat
          obtain ⟨A6, c6, rfl⟩ := row_sliceS hown
          have HST := Lib.hid (HP2.out.step HID.out HU.out hown hgrow hat)
          have hrow6 := World.ownsRow.kept (HP2.out.row.alloc _) hgrow (rows_ne' HP2.out.row HOd.out (by decide))
          have hlbc := (hrow6.cellAt N (by omega)).trans HU.out
          have hlbf := hrow6.frozenAt N
          have hlbl := (hrow6.lt _ rfl).2
          have hblk : ∀ g, (Value.slice A2 (part N (l.take k) N).length c2).ownBlock = some g → W.heap.size < g ∧ g ≠ wr.heap.size := fun g hg => by
            have h1 := HOV.out.lt g hg
            have h2 := rows_ne HOV.out HP.out.row (by decide) g hg
            have h3 : W.heap.size ≠ g := fun e => h2 (by simp [Value.ownBlock, e])
            omega
          have hw1 : Below W.heap.size W ((wr.alloc (.cells #[.int .i64 (0), .int .i64 (xb), .int .i64 xc] 48)).drew) := (HW.out.alloc (Nat.le_of_lt hlb2) (.cells #[.int .i64 (0), .int .i64 (xb), .int .i64 xc] 48)).drew
          have hw2 : Below W.heap.size W (((wr.alloc (.cells #[.int .i64 (0), .int .i64 (xb), .int .i64 xc] 48)).drew).alloc (.cells #[.int .i64 (0), .int .i64 (xb), .int .i64 xc] 48)) := hw1.alloc hw1.size _
          have HBL := Lib.hid (hw2.grown hgrow hw2.size (fun g hg => Nat.le_of_lt (hblk g hg).1))
          refine hK _ _ ⟨(Keeps.refl _ _).grown hgrow (fun g hg => .inl (hblk g hg)), ?_⟩
          clear hK K hown hgrow hat hrow6 hblk hw1 hw2
          simp only [Act.put, List.setIfInBounds_toArray, List.set_cons_zero, List.set_cons_succ]
          iterate 1 (refine plan_take (v := ?_) rfl (by kernel_rfl) ?_ ?_; rotate_left; (focus (intro w' hw'; go_simp; try with_reducible rfl)); simp only [Act.put, List.setIfInBounds_toArray, List.set_cons_zero, List.set_cons_succ])
          refine plan_last rfl (by kernel_rfl) (by kernel_rfl) (fun K hK => ?_)
          go_simp
          refine hK _ _ ?_
          clear hK K
          refine plan_end ?_
          go_wp2_with fail
          go_roundw
          case rel => exact ⟨k + 1, hkl, by go_num, ⟨_, by rw [HTK.out]; exact HST.out⟩, HBL.out.setCell (p := ⟨W.heap.size, N, none⟩) (Nat.le_refl _) _⟩
          case measure => simp [intOf]; omega
      · have HID : Hid (idx N ((xa, xb, xc) : A3) = N) := Lib.hid (by unfold idx; rw [if_neg (fun h => ha h.1)])
        obtain ⟨u, hu, hov⟩ := HP.out.own N (by omega)
        have HOV := Lib.hid hov
        clear hov
        obtain ⟨A2, c2, rfl, _, _⟩ := (show OwnA W.heap.size wr u (part N (l.take k) N) from HOV.out).rd
        have hlen9 : (part N (l.take k) N).length ≤ 100000 := Nat.le_trans (List.length_filter_le _ _) (Nat.le_trans (List.length_take_le _ _) (by omega))
        have hX := Blkf.new_at wr 48 (0, 0) #[.int .i64 (xa), .int .i64 (xb), .int .i64 xc] rfl
        have hP2 := HP.out.keeps (((Keeps.refl (fun _ => False) wr).alloc (.cells #[.int .i64 (xa), .int .i64 (xb), .int .i64 xc] 48)).drew) (fun _ h => h.elim)
        have hcell := hP2.row.cellAt N (by omega)
        have hlb3 := (hP2.row.lt _ rfl).2
        rw [hu] at hcell
        have HP2 := Lib.hid hP2
        have hneX : wr.heap.size ≠ W.heap.size := by omega
        have HU := Lib.hid hu
        have s3 := fun W' (h : Keeps (fun g => W.heap.size < g ∧ g ≠ wr.heap.size) ((wr.alloc (.cells #[.int .i64 (xa), .int .i64 (xb), .int .i64 xc] 48)).drew) W') => (World.cell?_of_block (a := ⟨W.heap.size, N, none⟩) (h.block _ hlb3 (fun e => Nat.lt_irrefl _ e.1))).trans hcell
        have s0 := fun W' (h : Keeps (fun g => W.heap.size < g ∧ g ≠ wr.heap.size) ((wr.alloc (.cells #[.int .i64 (xa), .int .i64 (xb), .int .i64 xc] 48)).drew) W') => (h.blk hX.drew (fun e => e.2 rfl)).cell 0
        have s1 := fun W' (h : Keeps (fun g => W.heap.size < g ∧ g ≠ wr.heap.size) ((wr.alloc (.cells #[.int .i64 (xa), .int .i64 (xb), .int .i64 xc] 48)).drew) W') => (h.blk hX.drew (fun e => e.2 rfl)).cell 1
        have s2 := fun W' (h : Keeps (fun g => W.heap.size < g ∧ g ≠ wr.heap.size) ((wr.alloc (.cells #[.int .i64 (xa), .int .i64 (xb), .int .i64 xc] 48)).drew) W') => (h.blk hX.drew (fun e => e.2 rfl)).cell 2
        clear hX hP2 hu hcell
        have hqi : ((N : Nat) : Int) < (N : Int) + 1 := by omega
        go_wp2_with fail
        refine wp_region_plan_by (Keeps (fun g => W.heap.size < g ∧ g ≠ wr.heap.size)) ⟨Keeps.refl _, Keeps.same⟩ [(0, false), (1, false), (2, false), (3, false), (4, false), (5, false), (6, false), (7, true), (8, true), (9, false), (10, true)] (by kernel_rfl) (by kernel_rfl) (fun _ d _ _ _ h => by cases d <;> exact h) ?_
        iterate 7 (refine plan_take (v := ?_) rfl (by kernel_rfl) ?_ ?_; rotate_left; (focus (intro w' hw'; go_simp; try with_reducible rfl)); simp only [Act.put, List.setIfInBounds_toArray, List.set_cons_zero, List.set_cons_succ])
        clear s0 s1 s2 s3
        have HOd := Lib.hid (((Keeps.refl (fun _ => False) wr).alloc (.cells #[.int .i64 (xa), .int .i64 (xb), .int .i64 xc] 48)).drew.row HOV.out (fun _ _ h => h))
        refine plan_turn rfl (by kernel_rfl) (fun K hK => ?_)
        go_simp
        refine hK _ _ ⟨(Keeps.refl _ _).alloc _, ?_⟩
        clear hK K
        refine plan_turn rfl (by kernel_rfl) (fun K hK => ?_)
        refine wp_append_any _ (.tmp 43) (.tmp 45) _ rfl W.heap.size 48 i0 _ 3 24 Try.underlying34 hi0 hz0 hz1 hz2 rfl (by decide) _ (part N (l.take k) N).length (actsC (part N (l.take k) N)) rfl (HOd.out.alloc _) (wr.heap.size + 1 + 1) (some ⟨wr.heap.size + 1, 0, none⟩) 1 1 (actC ((xa, xb, xc) : A3)) rfl (reads_at ((wr.alloc (.cells #[.int .i64 (xa), .int .i64 (xb), .int .i64 xc] 48)).drew) _ ((xa, xb, xc) : A3) (wr.heap.size + 1) (by simp)) (one_act _) (by unfold maxLen; omega) (by omega) (by simp; omega) ?_
        intro v6 w6 hown hgrow hat
        obtain ⟨A6, c6, rfl⟩ := row_sliceS hown
        have HST := Lib.hid (HP2.out.step HID.out HU.out hown hgrow hat)
        have hrow6 := World.ownsRow.kept (HP2.out.row.alloc _) hgrow (rows_ne' HP2.out.row HOd.out (by decide))
        have hlbc := (hrow6.cellAt N (by omega)).trans HU.out
        have hlbf := hrow6.frozenAt N
        have hlbl := (hrow6.lt _ rfl).2
        have hblk : ∀ g, (Value.slice A2 (part N (l.take k) N).length c2).ownBlock = some g → W.heap.size < g ∧ g ≠ wr.heap.size := fun g hg => by
          have h1 := HOV.out.lt g hg
          have h2 := rows_ne HOV.out HP.out.row (by decide) g hg
          have h3 : W.heap.size ≠ g := fun e => h2 (by simp [Value.ownBlock, e])
          omega
        have hw1 : Below W.heap.size W ((wr.alloc (.cells #[.int .i64 (xa), .int .i64 (xb), .int .i64 xc] 48)).drew) := (HW.out.alloc (Nat.le_of_lt hlb2) (.cells #[.int .i64 (xa), .int .i64 (xb), .int .i64 xc] 48)).drew
        have hw2 : Below W.heap.size W (((wr.alloc (.cells #[.int .i64 (xa), .int .i64 (xb), .int .i64 xc] 48)).drew).alloc (.cells #[.int .i64 (xa), .int .i64 (xb), .int .i64 xc] 48)) := hw1.alloc hw1.size _
        have HBL := Lib.hid (hw2.grown hgrow hw2.size (fun g hg => Nat.le_of_lt (hblk g hg).1))
        refine hK _ _ ⟨(Keeps.refl _ _).grown hgrow (fun g hg => .inl (hblk g hg)), ?_⟩
        clear hK K hown hgrow hat hrow6 hblk hw1 hw2
        simp only [Act.put, List.setIfInBounds_toArray, List.set_cons_zero, List.set_cons_succ]
        iterate 1 (refine plan_take (v := ?_) rfl (by kernel_rfl) ?_ ?_; rotate_left; (focus (intro w' hw'; go_simp; try with_reducible rfl)); simp only [Act.put, List.setIfInBounds_toArray, List.set_cons_zero, List.set_cons_succ])
        refine plan_last rfl (by kernel_rfl) (by kernel_rfl) (fun K hK => ?_)
        go_simp
        refine hK _ _ ?_
        clear hK K
        refine plan_end ?_
        go_wp2_with fail
        go_roundw
        case rel => exact ⟨k + 1, hkl, by go_num, ⟨_, by rw [HTK.out]; exact HST.out⟩, HBL.out.setCell (p := ⟨W.heap.size, N, none⟩) (Nat.le_refl _) _⟩
        case measure => simp [intOf]; omega
    · obtain rfl : k = n := by omega
      have HLT : Hid (l.take k = l) := Lib.hid (by rw [HL.out]; exact List.take_length)
      go_wp2
      go_ret
      have := HP.out
      rw [HLT.out] at this
      exact ⟨_, rfl, _, vs, rfl, this, HW.out⟩
end Go.Proofs.Ytkiicgdfibncfaa
