/- Merged texts: MmuE, MmuF, MmuG, MmuH. -/
import Derived.Test.YtecalibnnfcaeaaMm14
import Derived.Test.YtecalibnnfcaeaaPlanT
import Derived.Test.YtecalibnnfcaeaaPlanI
/- The leaf of an address. -/
namespace Go.Proofs.Ytecalibnnfcaeaa
open Go.RowKit

/-- Ways that meet again. -/
theorem pt_join {P : Program} {ls : List Oper} {Q : Exit → Act → World → Prop} {R : World → World → Prop} {ds : List (Nat × Option Tmp)} (S : (Nat → Value) → World → Prop) (t2 : PT) {a : Act} {w : World} {t : PT} {k : Nat} {L : Array Bool} (hs : Region.noSelect ls.toArray = true) (hR : Later R)
    (hQ : ∀ c d v a w, Q (.panic c) (a.put d v) w → Q (.panic c) a w) (hk : t2.depth = k) (hok : (ptOK .any ls.toArray t2 L && closedB .any ls.toArray L) = true)
    (hend : ∀ x w', S x w' → wpPT R P ls.toArray Q t2 (fill a x ds) w') (h : (∀ x w', S x w' → wpPT R P ls.toArray Q (.rest k L) (fill a x ds) w') → wpPT R P ls.toArray Q t a w) : wpPT R P ls.toArray Q t a w :=
  h fun x w' hS n hn => anyE_of_pt hR hs hQ t2 n L _ _ (closedB_spec (Bool.and_eq_true _ _ ▸ hok).2) (by omega) (Bool.and_eq_true _ _ ▸ hok).1 (hend x w' hS)
theorem Objs.ne {W w : World} {os : List Obj} (h : Objs W os w) (i j : Nat) {b b' : Nat} {t t' : TypeId} {cs cs' : Array Value} (hi : os[i]? = some (blkO b t cs)) (hj : os[j]? = some (blkO b' t' cs')) (hij : i ≠ j) : b ≠ b' := by
  obtain ⟨Fs, h1, h2, h3, h4⟩ := h.ex
  obtain ⟨F, hF⟩ := get_len h1 hi
  obtain ⟨G, hG⟩ := get_len h1 hj
  rintro rfl
  exact h3 i j F G hF hG hij b (((h2 i _ F hi hF).2 b).2 rfl) (((h2 j _ G hj hG).2 b).2 rfl)
theorem fdV_T (f : Fd) : fdV f = .agg (fdT f).cs := (fdT_val f).symm
theorem findF_lev {n : Nat} {S : Nat → List Nat} {va x l a : Nat} : ∀ (L t : Nat), L ≤ 2 → findF n S va L t = .leaf x l a → l ≤ 2 ∧ a < 18446744073709551616
  | 0, t, hL, h => by
    rcases fdAt_leaf h with ⟨rfl, rfl, _⟩ | h
    · exact ⟨hL, atX_lt _ _ _⟩
    · cases h
  | L + 1, t, hL, h => by
    rcases fdAt_leaf h with ⟨rfl, rfl, _⟩ | h
    · exact ⟨hL, atX_lt _ _ _⟩
    · exact findF_lev L _ (by omega) h
theorem fdT_wf (n : Nat) (S : Nat → List Nat) (on : Bool) (ppn va : Nat) : tlb_LfWf (fdT (findW n S on ppn va)) := by
  cases h : findW n S on ppn va with
  | err e =>
    show tlb_LfWf tlb_lf0
    unfold tlb_LfWf; decide
  | leaf x l a =>
    have hl : l ≤ 2 ∧ a < 18446744073709551616 := by
      unfold findW at h
      split at h
      · split at h
        · exact findF_lev 2 _ (by omega) h
        · cases h
      · cases h
    unfold tlb_LfWf fdT
    simp only
    exact ⟨wf64 (by omega) (by omega), wfu (by omega) (by omega), wf64 (by omega) (by omega), wfu (by omega) (by omega)⟩
section
variable {n k m va : Nat} {S : Nat → List Nat} {T : List (List En)} {u : Un} {a pick size : Int}
theorem TG.leafM (h : TG T k m) (ha : (Lit.int .i64 u.asid).wf = true) : TG (leafM n S T u va a pick).2.2 k m := by
  unfold Proofs.Ytecalibnnfcaeaa.leafM
  split
  · exact h
  · split
    · exact h.fillB (fdT_wf _ _ _ _ _) ha
    · exact h
theorem leafM_wf (h : WfT T) : tlb_LfWf (leafM n S T u va a pick).1 := by
  unfold Proofs.Ytecalibnnfcaeaa.leafM
  split
  · rename_i lf hf
    have := find_wf (va := va) (asid := u.asid) h
    rw [hf] at this
    exact this
  · split <;> exact fdT_wf _ _ _ _ _
end
section
variable {P : Program} {o : Oper} {a : Act} {w : World} {K : Act → World → Prop} {Q : Exit → Act → World → Prop}
theorem wo_row (ty : TypeId) (x y : Operand) (ho : o.op = .store ty x y) (g : Nat) (t : TypeId) (old cs : Array Value) (hx : a.eval x = .pointer (some ⟨g, 0, none⟩)) (hy : a.eval y = .agg cs)
    (hg : Blk w g t old) (hs : old.size = cs.size) (ht : rowT P ty cs.size = true) (h1 : cs.all (·.oneCell') = true) (h : K (a.put o.dst undef) (w.setRow g cs)) : o.wp P a w K Q := by
  obtain ⟨d, _, _, h3⟩ := rowT_spec ht
  exact wp_store_row ty x y ho g cs hx hy t old hg h3 hs h1 h
end
/-- These blocks are as they were. -/
def SameL (l : List Nat) (w w' : World) : Prop := ∀ b, b ∈ l → w'.heap[b]? = w.heap[b]?
theorem later_same (l : List Nat) : Later (SameL l) := ⟨fun _ _ _ => rfl, fun h k b hb => (k b hb).trans (h b hb)⟩
theorem SameL.cell {l : List Nat} {b i : Nat} {w w' : World} {v : Value} (h : SameL l w w') (hb : b ∈ l) (hc : w.cell? ⟨b, i, none⟩ = some v) : w'.cell? ⟨b, i, none⟩ = some v := by
  rw [World.cell?_of_block (a := ⟨b, i, none⟩) (h b hb)]; exact hc
theorem SameL.blk {l : List Nat} {b : Nat} {t : TypeId} {cs : Array Value} {w w' : World} (h : SameL l w w') (hb : b ∈ l) (hc : Blk w b t cs) : Blk w' b t cs := (h b hb).trans hc
theorem SameL.ext {l : List Nat} {w w' : World} (h : Ext w w') (hb : ∀ b, b ∈ l → b < w.heap.size) : SameL l w w' := fun b hm => h.block b (hb b hm)
theorem SameL.row {l : List Nat} {g : Nat} (w : World) (cs : Array Value) (h : ∀ b, b ∈ l → b ≠ g) : SameL l w (w.setRow g cs) := fun b hb => setRow_other w g b cs (h b hb)
theorem ext_alloc (w : World) (o : Go.Obj) : Ext w (w.alloc o) := (Ext.refl w).alloc (Nat.le_refl _) o
def xs5 (a b c d e : Value) : Nat → Value
  | 10 => a
  | 11 => b
  | 12 => c
  | 13 => d
  | 14 => e
  | _ => undef
theorem lf_range {W w : World} {os : List Obj} {g i : Nat} {l : Tf} (h : Objs W os w) (hi : os[i]? = some (blkO g 97 l.cs)) : w.rangeAt g 0 l.cs.toList := (h.blk i hi).range
theorem un_size (u : Un) (m b : Nat) : (u.cs m b).size = 8 := rfl
theorem un0 (u : Un) (m b : Nat) : (u.cs m b)[0]? = some (.pointer (some ⟨m, 0, none⟩)) := rfl
theorem un1 (u : Un) (m b : Nat) : (u.cs m b)[1]? = some (.pointer (some ⟨b, 0, none⟩)) := rfl
theorem un2 (u : Un) (m b : Nat) : (u.cs m b)[2]? = some (.bool u.on) := rfl
theorem un3 (u : Un) (m b : Nat) : (u.cs m b)[3]? = some (.int .i64 u.asid) := rfl
theorem un4 (u : Un) (m b : Nat) : (u.cs m b)[4]? = some (.int .u64 (u.ppn : Int)) := rfl
/-- A unit's objects. -/
def unO (ub m b n k mm : Nat) (u : Un) (S : Nat → List Nat) (T : List (List En)) (os : List Obj) : List Obj := blkO ub 87 (u.cs m b) :: bufO b k mm T :: memO m n S :: os
def Un.Ok (u : Un) : Prop := u.ppn < 18446744073709551616 ∧ (Lit.int .i64 u.asid).wf = true
def LeafR (W : World) (ub m b n k mm : Nat) (u : Un) (S : Nat → List Nat) (T : List (List En)) (os : List Obj) (va : Nat) (a pick : Int) (e : Ending) (w' : World) : Prop :=
  e = .returned (.tuple #[.agg (leafM n S T u va a pick).1.cs, .int .i64 (leafM n S T u va a pick).2.1]) ∧ Objs W (unO ub m b n k mm u S (leafM n S T u va a pick).2.2 os) w' ∧ Below W.heap.size W w'
set_option maxRecDepth 100000 in
set_option maxHeartbeats 4000000 in
theorem mleaf_any (ub m b n k mm : Nat) (u : Un) (S : Nat → List Nat) (T : List (List En)) (os : List Obj) (va : Nat) (a pick : Int) (W w : World) (hv : va < 18446744073709551616) (hp : -9223372036854775808 ≤ pick ∧ pick < 9223372036854775808) (hu : u.Ok)
    (h : Objs W (unO ub m b n k mm u S T os) w) :
    Calls Try.prog 54 #[.pointer (some ⟨ub, 0, none⟩), .int .u64 va, .int .i64 a, .int .i64 pick] w (LeafR W ub m b n k mm u S T os va a pick) := by
  have HR : Hid (LeafR W ub m b n k mm u S T os va a pick = LeafR W ub m b n k mm u S T os va a pick) := Lib.hid rfl
  unfold unO at h
  have HO1 := Lib.hid (h.push tlb_lf0.cs 97 rfl)
  have HV := Lib.hid hv
  have HP := Lib.hid hp
  have HU := Lib.hid hu
  obtain ⟨g0, hg0⟩ : ∃ g0, g0 = w.heap.size := ⟨_, rfl⟩
  rw [← hg0] at HO1
  have hne : g0 ≠ ub := by have := (h.blk 0 rfl).lt; omega
  have HNE := Lib.hid hne
  clear h hp hu hv hne
  go_enter Try.func54, Try.ntmps54
  go_wp2_with fail
  rw [← hg0]
  refine wp_world (fun w1 hw1 => ?_)
  have HO1 : Hid (Objs W (blkO g0 97 tlb_lf0.cs :: unO ub m b n k mm u S T os) w1) := Lib.hid (by rw [hw1]; exact HO1.out)
  clear hw1 hg0
  have hul := (HO1.out.blk 1 rfl).lt
  have s1 : ∀ W', SameL [ub] w1.drew W' → W'.cell? ⟨ub, 1, none⟩ = some (.pointer (some ⟨b, 0, none⟩)) := fun W' h => h.cell (by simp) ((HO1.out.drew.blk 1 rfl).cell 1)
  have s3 : ∀ W', SameL [ub] w1.drew W' → W'.cell? ⟨ub, 3, none⟩ = some (.int .i64 u.asid) := fun W' h => h.cell (by simp) ((HO1.out.drew.blk 1 rfl).cell 3)
  refine wp_region_pt (SameL [ub]) (later_same [ub]) (PT.steps [0, 1, 2, 3, 4, 5, 6, 7, 8, 9] (.fork 10 (.step 11 (.step 12 (.step 13 (.turn 14 (.rest 2 (doneL 17 [0, 1, 2, 3, 4, 5, 6, 7, 8, 9, 10, 11, 12, 13, 14])))))) 14 (.turn 10 (.step 11 (.step 12 (.step 13 (.rest 2 (doneL 17 [0, 1, 2, 3, 4, 5, 6, 7, 8, 9, 10, 11, 12, 13, 14])))))))) (by kernel_rfl) (by kernel_rfl) (fun _ d _ _ _ h => by cases d <;> exact h) ?_
  unfold PT.steps
  iterate 10 (refine pt_take (v := ?_) rfl (by kernel_rfl) ?_ ?_; rotate_left; (focus (intro w' hw'; try go_simp; try with_reducible rfl)); simp only [Act.put, List.setIfInBounds_toArray, List.set_cons_zero, List.set_cons_succ])
  clear s1 s3
  have HD1 := Lib.hid HO1.out.drew
  generalize w1.drew = y1 at HD1 ⊢
  obtain ⟨fs, hfs⟩ : ∃ fs, fs = findS T va u.asid := ⟨_, rfl⟩
  have HFS := Lib.hid hfs
  clear hfs
  refine pt_join (L := doneL 17 [0, 1, 2, 3, 4, 5, 6, 7, 8, 9, 10, 11, 12, 13, 14]) (k := 2) (ds := [(10, some 24), (11, some 13), (12, some 25), (13, some 26), (14, some 10)]) (fun x wz => ∃ g, x 10 = .tuple #[.agg (fs.getD tlb_lf0).cs, .bool fs.isSome] ∧ x 11 = .tuple #[.agg (fs.getD tlb_lf0).cs, .bool fs.isSome] ∧ x 12 = .agg (fs.getD tlb_lf0).cs ∧ x 13 = .bool fs.isSome ∧ x 14 = .pointer (some ⟨g, 0, none⟩) ∧ Objs W (blkO g 97 tlb_lf0.cs :: blkO g0 97 tlb_lf0.cs :: unO ub m b n k mm u S T os) wz) (.turn 15 (.step 16 .done)) (by kernel_rfl) (later_same [ub]) (fun _ d _ _ _ h => by cases d <;> exact h) rfl (by kernel_rfl) ?_ ?_
  · rintro x wz ⟨g, e10, e11, e12, e13, e14, hO⟩
    simp only [fill, Act.put, List.setIfInBounds_toArray, List.set_cons_zero, List.set_cons_succ]
    rw [e10, e11, e12, e13, e14]
    refine pt_turn ?_
    refine pt_op (R := SameL [ub]) rfl (by kernel_rfl) (fun K hK => ?_)
    refine wo_row 97 (.tmp 10) (.tmp 25) rfl g 97 tlb_lf0.cs (fs.getD tlb_lf0).cs rfl rfl (hO.blk 0 rfl) rfl (tlb_leaf_row _) (tlb_lcs_one _) ?_
    refine hK _ _ ⟨SameL.row _ _ (fun q hq => by simp only [List.mem_singleton] at hq; rw [hq]; exact hO.ne 2 0 rfl rfl (by decide)), ?_⟩
    clear hK K
    (try simp only [Act.put, List.setIfInBounds_toArray, List.set_cons_zero, List.set_cons_succ])
    iterate 1 (refine pt_take (v := ?_) rfl (by kernel_rfl) ?_ ?_; rotate_left; (focus (intro w' hw'; try go_simp; try with_reducible rfl)); simp only [Act.put, List.setIfInBounds_toArray, List.set_cons_zero, List.set_cons_succ])
    refine pt_end ?_
    have HO3 := Lib.hid (hO.row 0 rfl (fs.getD tlb_lf0).cs)
    have HG0 : Hid (g ≠ g0) := Lib.hid (hO.ne 0 1 rfl rfl (by decide))
    have HGU : Hid (g ≠ ub) := Lib.hid (hO.ne 0 2 rfl rfl (by decide))
    generalize wz.setRow g (fs.getD tlb_lf0).cs = w3 at HO3 ⊢
    clear e10 e11 e12 e13 e14 x hO HD1 HO1
    cases fs with
    | some lf =>
      have HRL : Hid (leafM n S T u va a pick = (lf, -1, T)) := Lib.hid (by unfold leafM; rw [← HFS.out])
      have HO3 : Hid (Objs W (blkO g 97 lf.cs :: blkO g0 97 tlb_lf0.cs :: unO ub m b n k mm u S T os) w3) := HO3
      have hrg := lf_range (i := 0) HO3.out rfl
      have HO4 := Lib.hid (HO3.out.row 1 rfl lf.cs)
      simp only [Option.getD_some, Option.isSome_some]
      have hbk := HO3.out.blk 1 rfl
      go_wp2_with (first | ((with_reducible refine wl_load 97 (.tmp 10) rfl ?_ g 0 lf.cs ?_ hrg ?_ ?_); exact rfl; exact rfl; exact tlb_leaf_row lf) | ((with_reducible refine wl_store 97 (.tmp 8) (.tmp 28) rfl ?_ g0 97 tlb_lf0.cs lf.cs ?_ ?_ hbk ?_ ?_ ?_ ?_); exact rfl; exact rfl; exact rfl; exact rfl; exact tlb_leaf_row lf; exact tlb_lcs_one lf))
      refine bodyPost_ret (v := .tuple #[.agg lf.cs, .int .i64 (-1)]) (res_cell_slot Try.results54 _ _ g0 97 _ _ rfl rfl (HO4.out.blk 1 rfl) (tlb_leaf_row lf)) rfl ?_
      unfold LeafR
      rw [HRL.out]
      exact ⟨rfl, HO4.out.drop 2, HO4.out.bel⟩
    | none =>
      have HO3 : Hid (Objs W (blkO g 97 tlb_lf0.cs :: blkO g0 97 tlb_lf0.cs :: unO ub m b n k mm u S T os) w3) := HO3
      simp only [Option.getD_none, Option.isSome_none]
      have HRL : Hid (leafM n S T u va a pick = if fdE (findW n S u.on u.ppn va) = 0 then (fdT (findW n S u.on u.ppn va), -1, fillB T va u.asid (fdT (findW n S u.on u.ppn va)) pick)
        else (fdT (findW n S u.on u.ppn va), if fdE (findW n S u.on u.ppn va) = 61 then causeV a 1 5 7 else causeV a 12 13 15, T)) := Lib.hid (by unfold leafM; rw [← HFS.out])
      have HWF := Lib.hid (fdT_wf n S u.on u.ppn va)
      obtain ⟨fd, hfd⟩ : ∃ fd, fd = findW n S u.on u.ppn va := ⟨_, rfl⟩
      rw [← hfd] at HRL HWF
      have HFD := Lib.hid hfd
      clear hfd
      obtain ⟨lf, hlf⟩ : ∃ lf, lf = fdT fd := ⟨_, rfl⟩
      rw [← hlf] at HRL HWF
      have HLF := Lib.hid hlf
      clear hlf
      go_wp2_with fail
      have s0 : ∀ W', SameL [ub] w3.drew W' → W'.cell? ⟨ub, 0, none⟩ = some (.pointer (some ⟨m, 0, none⟩)) := fun W' h => h.cell (by simp) ((HO3.out.drew.blk 2 rfl).cell 0)
      have s2 : ∀ W', SameL [ub] w3.drew W' → W'.cell? ⟨ub, 2, none⟩ = some (.bool u.on) := fun W' h => h.cell (by simp) ((HO3.out.drew.blk 2 rfl).cell 2)
      have s3 : ∀ W', SameL [ub] w3.drew W' → W'.cell? ⟨ub, 3, none⟩ = some (.int .i64 u.asid) := fun W' h => h.cell (by simp) ((HO3.out.drew.blk 2 rfl).cell 3)
      have s4 : ∀ W', SameL [ub] w3.drew W' → W'.cell? ⟨ub, 4, none⟩ = some (.int .u64 (u.ppn : Int)) := fun W' h => h.cell (by simp) ((HO3.out.drew.blk 2 rfl).cell 4)
      refine wp_region_plan_by (SameL [ub]) (later_same [ub]) [(0, false), (1, false), (2, false), (3, false), (4, false), (5, false), (6, false), (7, false), (8, false), (9, true), (10, false), (11, false), (12, false), (13, true), (14, false)] (by kernel_rfl) (by kernel_rfl) (fun _ d _ _ _ h => by cases d <;> exact h) ?_
      iterate 9 (refine plan_take (v := ?_) rfl (by kernel_rfl) ?_ ?_; rotate_left; (focus (intro w' hw'; try go_simp; try with_reducible rfl)); simp only [Act.put, List.setIfInBounds_toArray, List.set_cons_zero, List.set_cons_succ])
      clear s0 s2 s3 s4
      have HD3 := Lib.hid HO3.out.drew
      generalize w3.drew = y3 at HD3 ⊢
      clear HO3
      refine plan_call rfl (by kernel_rfl) (by go_simp; exact ⟨rfl, rfl⟩) ?_
      refine (HD3.out.memFind 4 rfl va u.ppn u.asid u.on HV.out HU.out.1).mono ?_
      rintro e y4 ⟨rfl, hO4, hx4⟩
      rw [← HFD.out, fdV_T, ← HLF.out]
      refine ⟨_, rfl, (SameL.ext hx4 (fun q hq => by simp only [List.mem_singleton] at hq; rw [hq]; exact (HD3.out.blk 2 rfl).lt)), ?_⟩
      simp only [Act.put, List.setIfInBounds_toArray, List.set_cons_zero, List.set_cons_succ]
      iterate 3 (refine plan_take (v := ?_) rfl (by kernel_rfl) ?_ ?_; rotate_left; (focus (intro w' hw'; try go_simp; try with_reducible rfl)); simp only [Act.put, List.setIfInBounds_toArray, List.set_cons_zero, List.set_cons_succ])
      clear HD3
      refine plan_turn rfl (by kernel_rfl) (fun K hK => ?_)
      refine wo_row 97 (.tmp 10) (.tmp 40) rfl g 97 tlb_lf0.cs lf.cs rfl rfl (hO4.blk 0 rfl) rfl (tlb_leaf_row _) (tlb_lcs_one _) ?_
      refine hK _ _ ⟨SameL.row _ _ (fun q hq => by simp only [List.mem_singleton] at hq; rw [hq]; exact hO4.ne 2 0 rfl rfl (by decide)), ?_⟩
      clear hK K
      (try simp only [Act.put, List.setIfInBounds_toArray, List.set_cons_zero, List.set_cons_succ])
      iterate 1 (refine plan_take (v := ?_) rfl (by kernel_rfl) ?_ ?_; rotate_left; (focus (intro w' hw'; try go_simp; try with_reducible rfl)); simp only [Act.put, List.setIfInBounds_toArray, List.set_cons_zero, List.set_cons_succ])
      refine plan_end ?_
      have HO5 := Lib.hid (hO4.row 0 rfl lf.cs)
      generalize y4.setRow g lf.cs = w5 at HO5 ⊢
      clear hO4 hx4
      have hrg := lf_range (i := 0) HO5.out rfl
      have hrd := lf_range (i := 0) HO5.out.drew rfl
      have HRD := Lib.hid hrd
      clear hrd
      rcases (show fdE fd = 0 ∨ fdE fd = 61 ∨ (fdE fd ≠ 0 ∧ fdE fd ≠ 61) by omega) with he | he | ⟨he, he2⟩
      · rw [if_pos he] at HRL
        rw [he]
        go_wp2_with fail
        have s1 : ∀ W', SameL [ub, g] w5.drew W' → W'.cell? ⟨ub, 1, none⟩ = some (.pointer (some ⟨b, 0, none⟩)) := fun W' h => h.cell (by simp) ((HO5.out.drew.blk 2 rfl).cell 1)
        have s3 : ∀ W', SameL [ub, g] w5.drew W' → W'.cell? ⟨ub, 3, none⟩ = some (.int .i64 u.asid) := fun W' h => h.cell (by simp) ((HO5.out.drew.blk 2 rfl).cell 3)
        refine wp_region_plan_by (SameL [ub, g]) (later_same [ub, g]) [(0, false), (1, false), (2, false), (3, false), (4, false), (5, false), (6, false), (7, false), (8, false), (9, false), (10, false), (11, false), (12, true)] (by kernel_rfl) (by kernel_rfl) (fun _ d _ _ _ h => by cases d <;> exact h) ?_
        iterate 10 (refine plan_take (v := ?_) rfl (by kernel_rfl) ?_ ?_; rotate_left; (focus (intro w' hw'; try go_simp; try with_reducible rfl)); simp only [Act.put, List.setIfInBounds_toArray, List.set_cons_zero, List.set_cons_succ])
        refine plan_take (v := .agg lf.cs) rfl (by kernel_rfl) (fun w' hw' => run_load_op 97 (.tmp 10) rfl g 0 lf.cs rfl (hw'.blk (by simp) (HO5.out.drew.blk 0 rfl)).range (tlb_leaf_row lf)) ?_
        simp only [Act.put, List.setIfInBounds_toArray, List.set_cons_zero, List.set_cons_succ]
        iterate 1 (refine plan_take (v := ?_) rfl (by kernel_rfl) ?_ ?_; rotate_left; (focus (intro w' hw'; try go_simp; try with_reducible rfl)); simp only [Act.put, List.setIfInBounds_toArray, List.set_cons_zero, List.set_cons_succ])
        clear s1 s3
        refine plan_call rfl (by kernel_rfl) (by go_simp; exact ⟨rfl, rfl⟩) ?_
        refine (HO5.out.drew.bufFill 3 rfl va u.asid lf pick HV.out HP.out HWF.out HU.out.2).mono ?_
        rintro e y6 ⟨rfl, hO6, hb6⟩
        have hS6 : SameL [ub, g] w5.drew y6 := fun q hq => by
          simp only [List.mem_cons, List.not_mem_nil, or_false] at hq
          rcases hq with rfl | rfl
          · exact HO5.out.drew.same hO6 2 2 rfl rfl
          · exact HO5.out.drew.same hO6 0 0 rfl rfl
        refine ⟨_, rfl, hS6, ?_⟩
        simp only [Act.put, List.setIfInBounds_toArray, List.set_cons_zero, List.set_cons_succ]
        refine plan_end ?_
        have HO6 := Lib.hid hO6
        have hrg := lf_range (i := 0) HO6.out rfl
        have HO7 := Lib.hid (HO6.out.row 1 rfl lf.cs)
        have hbk := HO6.out.blk 1 rfl
        clear hO6 hb6
        go_wp2_with (first | ((with_reducible refine wl_load 97 (.tmp 10) rfl ?_ g 0 lf.cs ?_ hrg ?_ ?_); exact rfl; exact rfl; exact tlb_leaf_row lf) | ((with_reducible refine wl_store 97 (.tmp 8) (.tmp 58) rfl ?_ g0 97 tlb_lf0.cs lf.cs ?_ ?_ hbk ?_ ?_ ?_ ?_); exact rfl; exact rfl; exact rfl; exact rfl; exact tlb_leaf_row lf; exact tlb_lcs_one lf))
        refine bodyPost_ret (v := .tuple #[.agg lf.cs, .int .i64 (-1)]) (res_cell_slot Try.results54 _ _ g0 97 _ _ rfl rfl (HO7.out.blk 1 rfl) (tlb_leaf_row lf)) rfl ?_
        unfold LeafR
        rw [HRL.out]
        exact ⟨rfl, HO7.out.drop 2, HO7.out.bel⟩
      · rw [if_neg (by rw [he]; decide), if_pos he] at HRL
        rw [he]
        go_wp2_with fail
        refine wp_region_plan_by (SameL [g]) (later_same [g]) [(0, false), (1, false), (2, true), (3, true), (4, false)] (by kernel_rfl) (by kernel_rfl) (fun _ d _ _ _ h => by cases d <;> exact h) ?_
        refine plan_take (v := .agg lf.cs) rfl (by kernel_rfl) (fun w' hw' => run_load_op 97 (.tmp 10) rfl g 0 lf.cs rfl (hw'.blk (by simp) (HO5.out.drew.blk 0 rfl)).range (tlb_leaf_row lf)) ?_
        simp only [Act.put, List.setIfInBounds_toArray, List.set_cons_zero, List.set_cons_succ]
        iterate 1 (refine plan_take (v := ?_) rfl (by kernel_rfl) ?_ ?_; rotate_left; (focus (intro w' hw'; try go_simp; try with_reducible rfl)); simp only [Act.put, List.setIfInBounds_toArray, List.set_cons_zero, List.set_cons_succ])
        refine plan_call rfl (by kernel_rfl) (by go_simp; exact ⟨rfl, rfl⟩) ?_
        refine (bound_any a _).mono ?_
        rintro e y6 ⟨rfl, rfl⟩
        have HO6 := Lib.hid (HO5.out.drew.step (ext_alloc _ (.cells #[.int .i64 1, .int .i64 5, .int .i64 7] 143)))
        refine ⟨_, rfl, (SameL.ext (ext_alloc _ _) (fun q hq => by simp only [List.mem_singleton] at hq; rw [hq]; exact (HO5.out.drew.blk 0 rfl).lt)), ?_⟩
        simp only [Act.put, List.setIfInBounds_toArray, List.set_cons_zero, List.set_cons_succ]
        refine plan_turn rfl (by kernel_rfl) (fun K hK => ?_)
        refine wo_row 97 (.tmp 8) (.tmp 61) rfl g0 97 tlb_lf0.cs lf.cs rfl rfl (HO6.out.blk 1 rfl) rfl (tlb_leaf_row _) (tlb_lcs_one _) ?_
        refine hK _ _ ⟨SameL.row _ _ (fun q hq => by simp only [List.mem_singleton] at hq; rw [hq]; exact HG0.out), ?_⟩
        clear hK K
        (try simp only [Act.put, List.setIfInBounds_toArray, List.set_cons_zero, List.set_cons_succ])
        iterate 1 (refine plan_take (v := ?_) rfl (by kernel_rfl) ?_ ?_; rotate_left; (focus (intro w' hw'; try go_simp; try with_reducible rfl)); simp only [Act.put, List.setIfInBounds_toArray, List.set_cons_zero, List.set_cons_succ])
        refine plan_end ?_
        have HO7 := Lib.hid (HO6.out.row 1 rfl lf.cs)
        go_wp2_with fail
        refine bodyPost_ret (v := .tuple #[.agg lf.cs, .int .i64 (causeV a 1 5 7)]) (res_cell_slot Try.results54 _ _ g0 97 _ _ rfl rfl (HO7.out.blk 1 rfl) (tlb_leaf_row lf)) rfl ?_
        unfold LeafR
        rw [HRL.out]
        exact ⟨rfl, HO7.out.drop 2, HO7.out.bel⟩
      · rw [if_neg he, if_neg he2] at HRL
        generalize fdE fd = er at *
        have hd1 : (er == 0) = false := by simpa using he
        have hd2 : (er == 61) = false := by simpa using he2
        go_wp2_with fail
        refine wp_region_plan_by (SameL [g]) (later_same [g]) [(0, false), (1, false), (2, true), (3, true), (4, false)] (by kernel_rfl) (by kernel_rfl) (fun _ d _ _ _ h => by cases d <;> exact h) ?_
        refine plan_take (v := .agg lf.cs) rfl (by kernel_rfl) (fun w' hw' => run_load_op 97 (.tmp 10) rfl g 0 lf.cs rfl (hw'.blk (by simp) (HO5.out.drew.blk 0 rfl)).range (tlb_leaf_row lf)) ?_
        simp only [Act.put, List.setIfInBounds_toArray, List.set_cons_zero, List.set_cons_succ]
        iterate 1 (refine plan_take (v := ?_) rfl (by kernel_rfl) ?_ ?_; rotate_left; (focus (intro w' hw'; try go_simp; try with_reducible rfl)); simp only [Act.put, List.setIfInBounds_toArray, List.set_cons_zero, List.set_cons_succ])
        refine plan_call rfl (by kernel_rfl) (by go_simp; exact ⟨rfl, rfl⟩) ?_
        refine (page_any a _).mono ?_
        rintro e y6 ⟨rfl, rfl⟩
        have HO6 := Lib.hid (HO5.out.drew.step (ext_alloc _ (.cells #[.int .i64 12, .int .i64 13, .int .i64 15] 143)))
        refine ⟨_, rfl, (SameL.ext (ext_alloc _ _) (fun q hq => by simp only [List.mem_singleton] at hq; rw [hq]; exact (HO5.out.drew.blk 0 rfl).lt)), ?_⟩
        simp only [Act.put, List.setIfInBounds_toArray, List.set_cons_zero, List.set_cons_succ]
        refine plan_turn rfl (by kernel_rfl) (fun K hK => ?_)
        refine wo_row 97 (.tmp 8) (.tmp 64) rfl g0 97 tlb_lf0.cs lf.cs rfl rfl (HO6.out.blk 1 rfl) rfl (tlb_leaf_row _) (tlb_lcs_one _) ?_
        refine hK _ _ ⟨SameL.row _ _ (fun q hq => by simp only [List.mem_singleton] at hq; rw [hq]; exact HG0.out), ?_⟩
        clear hK K
        (try simp only [Act.put, List.setIfInBounds_toArray, List.set_cons_zero, List.set_cons_succ])
        iterate 1 (refine plan_take (v := ?_) rfl (by kernel_rfl) ?_ ?_; rotate_left; (focus (intro w' hw'; try go_simp; try with_reducible rfl)); simp only [Act.put, List.setIfInBounds_toArray, List.set_cons_zero, List.set_cons_succ])
        refine plan_end ?_
        have HO7 := Lib.hid (HO6.out.row 1 rfl lf.cs)
        go_wp2_with fail
        refine bodyPost_ret (v := .tuple #[.agg lf.cs, .int .i64 (causeV a 12 13 15)]) (res_cell_slot Try.results54 _ _ g0 97 _ _ rfl rfl (HO7.out.blk 1 rfl) (tlb_leaf_row lf)) rfl ?_
        unfold LeafR
        rw [HRL.out]
        exact ⟨rfl, HO7.out.drop 2, HO7.out.bel⟩
  · intro HEND
    refine pt_fork ?_ ?_
    focus
      refine pt_opcall (R := SameL [ub]) rfl (by kernel_rfl) (by go_simp; exact ⟨rfl, rfl⟩) ?_
      refine (HD1.out.bufFind 2 rfl va u.asid HV.out).mono ?_
      rintro e y2 ⟨rfl, hO, hx⟩
      rw [← HFS.out]
      refine ⟨_, rfl, SameL.ext hx (fun q hq => by simp only [List.mem_singleton] at hq; rw [hq]; exact (HD1.out.blk 1 rfl).lt), ?_⟩
      (try simp only [Act.put, List.setIfInBounds_toArray, List.set_cons_zero, List.set_cons_succ])
      iterate 3 (refine pt_take (v := ?_) rfl (by kernel_rfl) ?_ ?_; rotate_left; (focus (intro w' hw'; try go_simp; try with_reducible rfl)); simp only [Act.put, List.setIfInBounds_toArray, List.set_cons_zero, List.set_cons_succ])
      refine pt_turn ?_
      refine pt_op (R := SameL [ub]) rfl (by kernel_rfl) (fun K hK => ?_)
      go_simp
      refine hK _ _ ⟨SameL.ext (ext_alloc _ _) (fun q hq => by simp only [List.mem_singleton] at hq; rw [hq]; exact (hO.blk 1 rfl).lt), ?_⟩
      clear hK K
      have hfin := HEND (xs5 (.tuple #[.agg (fs.getD tlb_lf0).cs, .bool fs.isSome]) (.tuple #[.agg (fs.getD tlb_lf0).cs, .bool fs.isSome]) (.agg (fs.getD tlb_lf0).cs) (.bool fs.isSome) (.pointer (some ⟨y2.heap.size, 0, none⟩))) _ ⟨y2.heap.size, rfl, rfl, rfl, rfl, rfl, hO.push tlb_lf0.cs 97 rfl⟩
      simp only [fill, xs5, Act.put, List.setIfInBounds_toArray, List.set_cons_zero, List.set_cons_succ] at hfin ⊢
      exact hfin
    focus
      refine pt_op (R := SameL [ub]) rfl (by kernel_rfl) (fun K hK => ?_)
      go_simp
      refine hK _ _ ⟨SameL.ext (ext_alloc _ _) (fun q hq => by simp only [List.mem_singleton] at hq; rw [hq]; exact (HD1.out.blk 1 rfl).lt), ?_⟩
      clear hK K
      (try simp only [Act.put, List.setIfInBounds_toArray, List.set_cons_zero, List.set_cons_succ])
      have HD2 := Lib.hid (HD1.out.push tlb_lf0.cs 97 rfl)
      refine pt_turn ?_
      refine pt_opcall (R := SameL [ub]) rfl (by kernel_rfl) (by go_simp; exact ⟨rfl, rfl⟩) ?_
      refine (HD2.out.bufFind 3 rfl va u.asid HV.out).mono ?_
      rintro e y2 ⟨rfl, hO, hx⟩
      rw [← HFS.out]
      refine ⟨_, rfl, SameL.ext hx (fun q hq => by simp only [List.mem_singleton] at hq; rw [hq]; exact (HD2.out.blk 2 rfl).lt), ?_⟩
      (try simp only [Act.put, List.setIfInBounds_toArray, List.set_cons_zero, List.set_cons_succ])
      iterate 3 (refine pt_take (v := ?_) rfl (by kernel_rfl) ?_ ?_; rotate_left; (focus (intro w' hw'; try go_simp; try with_reducible rfl)); simp only [Act.put, List.setIfInBounds_toArray, List.set_cons_zero, List.set_cons_succ])
      have hfin := HEND (xs5 (.tuple #[.agg (fs.getD tlb_lf0).cs, .bool fs.isSome]) (.tuple #[.agg (fs.getD tlb_lf0).cs, .bool fs.isSome]) (.agg (fs.getD tlb_lf0).cs) (.bool fs.isSome) (.pointer (some ⟨y1.heap.size, 0, none⟩))) _ ⟨y1.heap.size, rfl, rfl, rfl, rfl, rfl, hO⟩
      simp only [fill, xs5, Act.put, List.setIfInBounds_toArray, List.set_cons_zero, List.set_cons_succ] at hfin ⊢
      exact hfin
end Go.Proofs.Ytecalibnnfcaeaa

/- The place of an access. -/
namespace Go.Proofs.Ytecalibnnfcaeaa
open Go.RowKit

theorem joinV_lt (ppn va : Nat) (lev : Int) : joinV ppn va lev < 18446744073709551616 := by
  unfold joinV
  cases hl : levelB lev with
  | false => simp
  | true =>
    rw [if_pos rfl]
    have hp : ppn * 4096 % 18446744073709551616 < 18446744073709551616 := Nat.mod_lt _ (by decide)
    generalize ppn * 4096 % 18446744073709551616 = p at *
    rcases level_cases hl with rfl | rfl | rfl
    · rw [show spanV 0 = 4096 by decide]; omega
    · rw [show spanV 1 = 2097152 by decide]; omega
    · rw [show spanV 2 = 1073741824 by decide]; omega
def Tf.pte (l : Tf) : Array Value := #[.bool l.v, .bool l.r, .bool l.w, .bool l.x, .bool l.u, .bool l.g, .bool l.a, .bool l.d, .int .i64 l.rsw, .int .u64 l.ppn]
theorem tfp_row (l : Tf) : rowT Try.prog 95 l.pte.size = true := by rw [show l.pte.size = 10 from rfl]; kernel_rfl
theorem pte_range {w : World} {g : Nat} {l : Tf} (h : w.rangeAt g 0 l.cs.toList) : w.rangeAt g 0 l.pte.toList := fun j v hv => by
  refine h j v ?_
  have hj : j < 10 := by
    rcases Nat.lt_or_ge j 10 with h1 | h1
    · exact h1
    · rw [List.getElem?_eq_none (by simpa [Tf.pte] using h1)] at hv; cases hv
  rcases (show j = 0 ∨ j = 1 ∨ j = 2 ∨ j = 3 ∨ j = 4 ∨ j = 5 ∨ j = 6 ∨ j = 7 ∨ j = 8 ∨ j = 9 by omega) with rfl | rfl | rfl | rfl | rfl | rfl | rfl | rfl | rfl | rfl <;> exact hv
theorem place_tf (l : Tf) (va : Nat) (W : World) (hv : va < 18446744073709551616) (hl : l.ppn < 18446744073709551616) :
    Calls Try.prog 57 #[.agg l.cs, .int .u64 (va : Int)] W fun e w' => e = .returned (.int .u64 ((joinV l.ppn va l.lev : Nat) : Int)) ∧ Ext W w' := by
  have HV := Lib.hid hv
  have HL := Lib.hid hl
  clear hv hl
  unfold Tf.cs
  go_enter Try.func57, Try.ntmps57
  go_wp2_with fail
  refine (join_any l.ppn va l.lev _ HL.out HV.out).mono ?_
  rintro e w' ⟨rfl, rfl⟩
  go_wp2_with fail
  go_ret
  exact ⟨rfl, ext_alloc _ _⟩
theorem Objs.memLe {W w : World} {os : List Obj} {g n : Nat} {S : Nat → List Nat} (h : Objs W os w) (i : Nat) (hi : os[i]? = some (memO g n S)) : 1 ≤ n ∧ n ≤ 1048576 := by
  obtain ⟨F, ⟨mb, loc, K, hM, _⟩, _⟩ := h.get i _ hi
  exact ⟨hM.n1, hM.n2⟩
def PlaceR (W : World) (ub m b n k mm : Nat) (u : Un) (S : Nat → List Nat) (T : List (List En)) (os : List Obj) (va : Nat) (size a pick : Int) (e : Ending) (w' : World) : Prop :=
  e = .returned (.tuple #[.int .u64 ((placeM n S T u va size a pick).1 : Nat), .int .i64 (placeM n S T u va size a pick).2.1]) ∧ Objs W (unO ub m b n k mm u S (placeM n S T u va size a pick).2.2 os) w' ∧ Below W.heap.size W w'
theorem lf_ppn {l : Tf} (h : tlb_LfWf l) : l.ppn < 18446744073709551616 := by
  have := u64_of_wf h.2.1
  omega
set_option maxRecDepth 100000 in
set_option maxHeartbeats 4000000 in
theorem mplace_any (ub m b n k mm : Nat) (u : Un) (S : Nat → List Nat) (T : List (List En)) (os : List Obj) (va : Nat) (size a pick : Int) (W w : World) (hv : va < 18446744073709551616) (hp : -9223372036854775808 ≤ pick ∧ pick < 9223372036854775808) (hu : u.Ok)
    (h : Objs W (unO ub m b n k mm u S T os) w) :
    Calls Try.prog 31 #[.pointer (some ⟨ub, 0, none⟩), .int .u64 va, .int .i64 size, .int .i64 a, .int .i64 pick] w (PlaceR W ub m b n k mm u S T os va size a pick) := by
  have HO := Lib.hid h
  have HV := Lib.hid hv
  have HWF := Lib.hid (leafM_wf (n := n) (S := S) (u := u) (va := va) (a := a) (pick := pick) (h.bufTG 1 rfl).2)
  have HLA := Lib.hid (mleaf_any ub m b n k mm u S T os va a pick W w hv hp hu h)
  have HN := Lib.hid (h.memLe 2 rfl).2
  clear h hp hu hv
  cases hal : alignedB va size with
  | false =>
    have HPM : Hid (placeM n S T u va size a pick = (0, causeV a 0 4 6, T)) := Lib.hid (by unfold placeM; rw [hal]; rfl)
    have HAL := Lib.hid hal
    clear hal
    go_enter Try.func31, Try.ntmps31
    go_wp2_with fail
    refine (aligned_any va size _ HV.out).mono ?_
    rintro e w1 ⟨rfl, rfl⟩
    rw [HAL.out]
    go_wp2_with fail
    refine (align_any a _).mono ?_
    rintro e w1 ⟨rfl, rfl⟩
    go_wp2_with fail
    go_ret2
    unfold PlaceR
    rw [HPM.out]
    have ho := HO.out.step (ext_alloc _ (.cells #[.int .i64 0, .int .i64 4, .int .i64 6] 143))
    exact ⟨rfl, ho, ho.bel⟩
  | true =>
    obtain ⟨lf, c, T', hL⟩ : ∃ lf c T', leafM n S T u va a pick = (lf, c, T') := ⟨_, _, _, rfl⟩
    have HPM : Hid (placeM n S T u va size a pick = if c = -1 then (if checkB lf.v lf.r lf.w lf.x lf.u lf.a lf.d a u.user u.sum u.mxr then (if joinV lf.ppn va lf.lev / 4096 < n then (joinV lf.ppn va lf.lev, -1, T') else (0, causeV a 1 5 7, T')) else (0, causeV a 12 13 15, T')) else (0, c, T')) := Lib.hid (by unfold placeM; rw [hal, hL]; rfl)
    unfold LeafR at HLA
    rw [hL] at HLA HWF
    have HAL := Lib.hid hal
    clear hal hL
    go_enter Try.func31, Try.ntmps31
    go_wp2_with fail
    refine (aligned_any va size _ HV.out).mono ?_
    rintro e w1 ⟨rfl, rfl⟩
    rw [HAL.out]
    go_wp2_with fail
    refine HLA.out.mono ?_
    rintro e w1 ⟨rfl, hO1, hb1⟩
    have HO1 := Lib.hid (hO1.push lf.cs 97 rfl)
    clear hO1 hb1 HO HLA
    by_cases hc : c = -1
    · subst hc
      rw [if_pos rfl] at HPM
      go_wp2_with ((with_reducible refine wl_store_new 97 (.tmp 12) (.tmp 31) rfl ?_ w1 (World.heap w1).size 97 tlb_lf0.cs lf.cs ?_ ?_ ?_ ?_ ?_ ?_ ?_ ?_); exact rfl; exact rfl; exact rfl; exact rfl; exact rfl; exact rfl; exact tlb_leaf_row lf; exact tlb_lcs_one lf)
      refine wp_world (fun w2 hw2 => ?_)
      have HO2 : Hid (Objs W (blkO w1.heap.size 97 lf.cs :: unO ub m b n k mm u S T' os) w2) := Lib.hid (by rw [hw2]; exact HO1.out)
      clear hw2 HO1
      generalize w1.heap.size = g at *
      have s5 : ∀ W', SameL [ub, g] w2.drew W' → W'.cell? ⟨ub, 5, none⟩ = some (.bool u.user) := fun W' h => h.cell (by simp) ((HO2.out.drew.blk 1 rfl).cell 5)
      have s6 : ∀ W', SameL [ub, g] w2.drew W' → W'.cell? ⟨ub, 6, none⟩ = some (.bool u.sum) := fun W' h => h.cell (by simp) ((HO2.out.drew.blk 1 rfl).cell 6)
      have s7 : ∀ W', SameL [ub, g] w2.drew W' → W'.cell? ⟨ub, 7, none⟩ = some (.bool u.mxr) := fun W' h => h.cell (by simp) ((HO2.out.drew.blk 1 rfl).cell 7)
      refine wp_region_plan_by (SameL [ub, g]) (later_same [ub, g]) [(0, false), (1, false), (2, false), (3, false), (4, false), (5, false), (6, false), (7, true), (8, false)] (by kernel_rfl) (by kernel_rfl) (fun _ d _ _ _ h => by cases d <;> exact h) ?_
      iterate 1 (refine plan_take (v := ?_) rfl (by kernel_rfl) ?_ ?_; rotate_left; (focus (intro w' hw'; try go_simp; try with_reducible rfl)); simp only [Act.put, List.setIfInBounds_toArray, List.set_cons_zero, List.set_cons_succ])
      refine plan_take (v := .agg lf.pte) rfl (by kernel_rfl) (fun w' hw' => run_load_op 95 (.tmp 36) rfl g 0 lf.pte rfl (pte_range (hw'.blk (by simp) (HO2.out.drew.blk 0 rfl)).range) (tfp_row lf)) ?_
      simp only [Act.put, List.setIfInBounds_toArray, List.set_cons_zero, List.set_cons_succ]
      iterate 5 (refine plan_take (v := ?_) rfl (by kernel_rfl) ?_ ?_; rotate_left; (focus (intro w' hw'; try go_simp; try with_reducible rfl)); simp only [Act.put, List.setIfInBounds_toArray, List.set_cons_zero, List.set_cons_succ])
      clear s5 s6 s7
      have HD2 := Lib.hid HO2.out.drew
      generalize w2.drew = y2 at HD2 ⊢
      clear HO2
      refine plan_call rfl (by kernel_rfl) (by go_simp; exact ⟨rfl, rfl⟩) ?_
      refine (perm_check_any lf.v lf.r lf.w lf.x lf.u lf.g lf.a lf.d lf.rsw lf.ppn a u.user u.sum u.mxr _).mono ?_
      rintro e y3 ⟨rfl, hb3⟩
      have hS3 : SameL [ub, g] y2 y3 := SameL.ext hb3 (fun q hq => by
          simp only [List.mem_cons, List.not_mem_nil, or_false] at hq
          rcases hq with rfl | rfl
          · exact (HD2.out.blk 1 rfl).lt
          · exact (HD2.out.blk 0 rfl).lt)
      have HO3 := Lib.hid (HD2.out.step hb3)
      refine ⟨_, rfl, hS3, ?_⟩
      simp only [Act.put, List.setIfInBounds_toArray, List.set_cons_zero, List.set_cons_succ]
      clear hb3 HD2
      cases hck : checkB lf.v lf.r lf.w lf.x lf.u lf.a lf.d a u.user u.sum u.mxr with
      | false =>
        rw [hck, if_neg (by decide)] at HPM
        iterate 1 (refine plan_take (v := ?_) rfl (by kernel_rfl) ?_ ?_; rotate_left; (focus (intro w' hw'; try go_simp; try with_reducible rfl)); simp only [Act.put, List.setIfInBounds_toArray, List.set_cons_zero, List.set_cons_succ])
        refine plan_end ?_
        go_wp2_with fail
        refine (page_any a _).mono ?_
        rintro e w4 ⟨rfl, rfl⟩
        have HO4 := Lib.hid (HO3.out.step (ext_alloc _ (.cells #[.int .i64 12, .int .i64 13, .int .i64 15] 143)))
        go_wp2_with fail
        go_ret2
        unfold PlaceR
        rw [HPM.out]
        exact ⟨rfl, HO4.out.drop 1, HO4.out.bel⟩
      | true =>
        rw [hck, if_pos rfl] at HPM
        clear hck
        iterate 1 (refine plan_take (v := ?_) rfl (by kernel_rfl) ?_ ?_; rotate_left; (focus (intro w' hw'; try go_simp; try with_reducible rfl)); simp only [Act.put, List.setIfInBounds_toArray, List.set_cons_zero, List.set_cons_succ])
        refine plan_end ?_
        have hrg := lf_range (i := 0) HO3.out rfl
        go_wp2_with ((with_reducible refine wl_load 97 (.tmp 12) rfl ?_ g 0 lf.cs ?_ hrg ?_ ?_); exact rfl; exact rfl; exact tlb_leaf_row lf)
        refine (place_tf lf va _ HV.out (lf_ppn HWF.out)).mono ?_
        rintro e w4 ⟨rfl, hx4⟩
        have HO4 := Lib.hid (HO3.out.step hx4)
        have HLT : Hid (joinV lf.ppn va lf.lev < 18446744073709551616) := Lib.hid (joinV_lt _ _ _)
        generalize joinV lf.ppn va lf.lev = at_ at *
        obtain ⟨q, hq⟩ : ∃ q, q = at_ / 4096 := ⟨_, rfl⟩
        rw [← hq] at HPM
        have hqd : (at_ : Int) / 4096 = (q : Int) := by rw [hq]; rfl
        have hq2 : q < 4503599627370496 := by have := HLT.out; omega
        clear hq hrg hx4
        have c0 := (HO4.out.blk 1 rfl).cell 0
        rw [un0] at c0
        have hul := (HO4.out.blk 1 rfl).lt
        have hnw : IntKind.u64.wrap (n : Int) = (n : Int) := by have := HN.out; rw [IntKind.wrap_u64]; omega
        go_wp2_with fail
        refine (HO4.out.memFrames 3 rfl).mono ?_
        rintro e w5 ⟨rfl, rfl⟩
        by_cases hlt : q < n
        · rw [if_pos hlt] at HPM
          have hg : decide ((n : Int) ≤ (q : Int)) = false := by simp only [decide_eq_false_iff_not]; omega
          go_wp2_with fail
          go_ret2
          unfold PlaceR
          rw [HPM.out]
          exact ⟨rfl, HO4.out.drop 1, HO4.out.bel⟩
        · rw [if_neg hlt] at HPM
          have hg : decide ((n : Int) ≤ (q : Int)) = true := by simp only [decide_eq_true_eq]; omega
          go_wp2_with fail
          refine (bound_any a _).mono ?_
          rintro e w6 ⟨rfl, rfl⟩
          have HO5 := Lib.hid (HO4.out.step (ext_alloc _ (.cells #[.int .i64 1, .int .i64 5, .int .i64 7] 143)))
          go_wp2_with fail
          go_ret2
          unfold PlaceR
          rw [HPM.out]
          exact ⟨rfl, HO5.out.drop 1, HO5.out.bel⟩
    · rw [if_neg hc] at HPM
      have hc2 : (c == -1) = false := by simpa using hc
      go_wp2_with ((with_reducible refine wl_store_new 97 (.tmp 12) (.tmp 31) rfl ?_ w1 (World.heap w1).size 97 tlb_lf0.cs lf.cs ?_ ?_ ?_ ?_ ?_ ?_ ?_ ?_); exact rfl; exact rfl; exact rfl; exact rfl; exact rfl; exact rfl; exact tlb_leaf_row lf; exact tlb_lcs_one lf)
      go_ret2
      unfold PlaceR
      rw [HPM.out]
      exact ⟨rfl, HO1.out.drop 1, HO1.out.bel⟩
end Go.Proofs.Ytecalibnnfcaeaa

/- Reading, storing, swapping; satp, mode, fence. -/
namespace Go.Proofs.Ytecalibnnfcaeaa
open Go.RowKit

theorem find_set {l : List En} {v : Nat} {fe : En} {p : En → Bool} (hv : v < l.length) (h : ∀ e ∈ l, p e = false) : (l.set v fe).find? p = if p fe then some fe else none := by
  cases hp : p fe with
  | false =>
    rw [if_neg (by decide), List.find?_eq_none]
    intro x hx
    rcases List.mem_or_eq_of_mem_set hx with h1 | h1
    · rw [h x h1]; decide
    · rw [h1, hp]; decide
  | true =>
    rw [if_pos rfl]
    cases hf : (l.set v fe).find? p with
    | none =>
      rw [List.find?_eq_none] at hf
      exact absurd hp (by simpa using hf fe (List.mem_of_getElem? (by rw [List.getElem?_set_self hv])))
    | some y =>
      have hy := List.find?_some hf
      rcases List.mem_or_eq_of_mem_set (List.mem_of_find?_eq_some hf) with h1 | h1
      · rw [h y h1] at hy; cases hy
      · rw [h1]
theorem way_none {l : List En} {lev : Int} {va : Nat} {asid : Int} (h : wayFind l lev va asid = none) : ∀ e ∈ l, hitB lev va asid e = false := by
  unfold wayFind at h
  rw [Option.map_eq_none_iff, List.find?_eq_none] at h
  intro e he
  have := h e he
  simpa using this
/-- What was not there and has been filled in is found. -/
theorem find_fill {T : List (List En)} {k m va : Nat} {asid pick : Int} {lf : Tf} (hK : TOk T k m) (hl : levOK lf.lev = true) (h : findS T va asid = none) : findS (fillS T va asid lf pick) va asid = some lf := by
  have hq : fillQ T va lf < T.length := by unfold fillQ; rw [hK.len]; exact Nat.mod_lt _ hK.n0
  have hw : (T.getD (fillQ T va lf) []).length = m := hK.ways _ (by rw [← hK.len]; exact hq)
  have hv : victimN (T.getD (fillQ T va lf) []) (fillE va asid lf) pick < (T.getD (fillQ T va lf) []).length := victim_lt _ _ _ (by rw [hw]; exact hK.m0)
  unfold findS at h
  simp only [Option.or_eq_none_iff] at h
  obtain ⟨h0, h1, h2⟩ := h
  have key : ∀ l : Int, wayFind (T.getD (pgN va l % T.length) []) l va asid = none → wayFind ((fillS T va asid lf pick).getD (pgN va l % T.length) []) l va asid = if lf.lev = l then some lf else none := by
    intro l hn
    unfold fillS
    by_cases hi : pgN va l % T.length = fillQ T va lf
    · rw [hi, List.getD_eq_getElem?_getD, List.getElem?_set_self hq]
      rw [hi] at hn
      unfold wayFind
      rw [Option.getD_some, find_set hv (way_none hn)]
      have hb : hitB l va asid (fillE va asid lf) = decide (lf.lev = l) := by
        unfold hitB matchB hasB fillE
        by_cases e : lf.lev = l <;> simp [e]
      rw [hb]
      by_cases e : lf.lev = l
      · simp [e]; rfl
      · simp [e]
    · have hne : ¬ lf.lev = l := fun e => hi (by rw [← e]; rfl)
      rw [if_neg hne, List.getD_eq_getElem?_getD, List.getElem?_set_ne (fun e => hi e.symm), ← List.getD_eq_getElem?_getD]
      exact hn
  unfold findS
  rw [fillS_length, key 0 h0, key 1 h1, key 2 h2]
  rcases lev_cases hl with e | e | e <;> simp [e]
section
variable {n k m va : Nat} {S : Nat → List Nat} {T : List (List En)} {u : Un} {a pick size : Int}
theorem fdT_lev (n : Nat) (S : Nat → List Nat) (on : Bool) (ppn va : Nat) : levOK (fdT (findW n S on ppn va)).lev = true := by
  cases h : findW n S on ppn va with
  | err e => rfl
  | leaf x l a =>
    have hl : l ≤ 2 := by
      unfold findW at h
      split at h
      · split at h
        · exact (findF_lev 2 _ (by omega) h).1
        · cases h
      · cases h
    unfold fdT levOK
    simp only
    rcases (show l = 0 ∨ l = 1 ∨ l = 2 by omega) with rfl | rfl | rfl <;> rfl
theorem leafM_twice (hK : TOk T k m) : leafM n S (leafM n S T u va a pick).2.2 u va a pick = leafM n S T u va a pick := by
  cases hf : findS T va u.asid with
  | some lf =>
    have e : leafM n S T u va a pick = (lf, -1, T) := by unfold Proofs.Ytecalibnnfcaeaa.leafM; rw [hf]
    rw [e, e]
  | none =>
    by_cases h0 : fdE (findW n S u.on u.ppn va) = 0
    · have e : leafM n S T u va a pick = (fdT (findW n S u.on u.ppn va), -1, fillB T va u.asid (fdT (findW n S u.on u.ppn va)) pick) := by
        unfold Proofs.Ytecalibnnfcaeaa.leafM; rw [hf]; simp only [if_pos h0]
      rw [e]
      have h2 : findS (fillB T va u.asid (fdT (findW n S u.on u.ppn va)) pick) va u.asid = some (fdT (findW n S u.on u.ppn va)) := by
        unfold fillB
        rw [if_pos (fdT_lev _ _ _ _ _)]
        exact find_fill hK (fdT_lev _ _ _ _ _) hf
      show Proofs.Ytecalibnnfcaeaa.leafM n S (fillB T va u.asid (fdT (findW n S u.on u.ppn va)) pick) u va a pick = _
      unfold Proofs.Ytecalibnnfcaeaa.leafM
      rw [h2]
    · have e : leafM n S T u va a pick = (fdT (findW n S u.on u.ppn va), if fdE (findW n S u.on u.ppn va) = 61 then causeV a 1 5 7 else causeV a 12 13 15, T) := by
        unfold Proofs.Ytecalibnnfcaeaa.leafM; rw [hf]; simp only [if_neg h0]
      rw [e, e]
theorem placeM_T : (placeM n S T u va size a pick).2.2 = if alignedB va size then (leafM n S T u va a pick).2.2 else T := by
  unfold placeM
  split
  · split
    · split
      · split <;> rfl
      · rfl
    · rfl
  · rfl
theorem placeM_twice (hK : TOk T k m) : placeM n S (placeM n S T u va size a pick).2.2 u va size a pick = placeM n S T u va size a pick := by
  rw [placeM_T]
  by_cases h : alignedB va size = true
  · rw [if_pos h]
    unfold placeM
    rw [if_pos h, if_pos h, leafM_twice hK]
  · rw [if_neg h]
theorem placeM_lt : (placeM n S T u va size a pick).1 < 18446744073709551616 := by
  unfold placeM
  split
  · split
    · split
      · split
        · exact joinV_lt _ _ _
        · simp
      · simp
    · simp
  · simp
theorem TG.placeM (h : TG T k m) (ha : (Lit.int .i64 u.asid).wf = true) : TG (placeM n S T u va size a pick).2.2 k m := by
  rw [placeM_T]
  split
  · exact h.leafM ha
  · exact h
end
/-- What is read, and the cause. -/
def readM (n : Nat) (S : Nat → List Nat) (p : Nat × Int × List (List En)) (size : Int) : Nat := if p.2.1 = -1 then ldR n S p.1 size else 0
def storeM (n : Nat) (S : Nat → List Nat) (p : Nat × Int × List (List En)) (size : Int) (v : Nat) : Nat → List Nat := if p.2.1 = -1 then stR n S p.1 size v else S
section
variable (ub m b n k mm : Nat) (u : Un) (S : Nat → List Nat) (T : List (List En)) (os : List Obj) (va : Nat) (size a pick : Int) (W w : World)
set_option maxHeartbeats 1000000 in
theorem read_any (hv : va < 18446744073709551616) (hp : -9223372036854775808 ≤ pick ∧ pick < 9223372036854775808) (hu : u.Ok) (h : Objs W (unO ub m b n k mm u S T os) w) :
    Calls Try.prog 28 #[.pointer (some ⟨ub, 0, none⟩), .int .u64 va, .int .i64 size, .int .i64 a, .int .i64 pick] w fun e w' =>
      e = .returned (.tuple #[.int .u64 (readM n S (placeM n S T u va size a pick) size : Nat), .int .i64 (placeM n S T u va size a pick).2.1]) ∧ Objs W (unO ub m b n k mm u S (placeM n S T u va size a pick).2.2 os) w' ∧ Below W.heap.size W w' := by
  have HP := Lib.hid (mplace_any ub m b n k mm u S T os va size a pick W w hv hp hu h)
  have HLT := Lib.hid (placeM_lt (n := n) (S := S) (T := T) (u := u) (va := va) (size := size) (a := a) (pick := pick))
  unfold PlaceR at HP
  generalize placeM n S T u va size a pick = p at *
  obtain ⟨at_, c, T'⟩ := p
  clear h hp hu hv
  have HRD : Hid (readM n S (at_, c, T') size = if c = -1 then ldR n S at_ size else 0) := Lib.hid rfl
  generalize readM n S (at_, c, T') size = r at *
  simp only at HP HLT ⊢
  go_enter Try.func28, Try.ntmps28
  go_wp2_with fail
  refine HP.out.mono ?_
  rintro e w1 ⟨rfl, hO1, hb1⟩
  have HO1 := Lib.hid hO1
  clear hb1 hO1
  by_cases hc : c = -1
  · subst hc
    rw [if_pos rfl] at HRD
    have c0 := (HO1.out.blk 0 rfl).cell 0
    rw [un0] at c0
    have hul := (HO1.out.blk 0 rfl).lt
    go_wp2_with fail
    refine (HO1.out.memLoad 2 rfl at_ size HLT.out).mono ?_
    rintro e w2 ⟨rfl, rfl⟩
    rw [← HRD.out]
    go_wp2_with fail
    go_ret2
    exact ⟨rfl, HO1.out, HO1.out.bel⟩
  · rw [if_neg hc] at HRD
    have hc2 : (c == -1) = false := by simpa using hc
    go_wp2_with fail
    go_ret2
    exact ⟨by rw [HRD.out]; rfl, HO1.out, HO1.out.bel⟩
theorem mload_any (hv : va < 18446744073709551616) (hp : -9223372036854775808 ≤ pick ∧ pick < 9223372036854775808) (hu : u.Ok) (h : Objs W (unO ub m b n k mm u S T os) w) :
    Calls Try.prog 8 #[.pointer (some ⟨ub, 0, none⟩), .int .u64 va, .int .i64 size, .int .i64 pick] w fun e w' =>
      e = .returned (.tuple #[.int .u64 (readM n S (placeM n S T u va size 1 pick) size : Nat), .int .i64 (placeM n S T u va size 1 pick).2.1]) ∧ Objs W (unO ub m b n k mm u S (placeM n S T u va size 1 pick).2.2 os) w' ∧ Below W.heap.size W w' := by
  have HP := Lib.hid (read_any ub m b n k mm u S T os va size 1 pick W w hv hp hu h)
  generalize placeM n S T u va size 1 pick = p at *
  obtain ⟨at_, c, T'⟩ := p
  generalize readM n S (at_, c, T') size = r at *
  clear h hp hu hv
  simp only at HP ⊢
  go_enter Try.func8, Try.ntmps8
  go_wp2_with fail
  refine HP.out.mono ?_
  rintro e w1 ⟨rfl, hO1, hb1⟩
  go_wp2_with fail
  go_ret2
  exact ⟨rfl, hO1, hb1⟩
theorem mfetch_any (hv : va < 18446744073709551616) (hp : -9223372036854775808 ≤ pick ∧ pick < 9223372036854775808) (hu : u.Ok) (h : Objs W (unO ub m b n k mm u S T os) w) :
    Calls Try.prog 14 #[.pointer (some ⟨ub, 0, none⟩), .int .u64 va, .int .i64 pick] w fun e w' =>
      e = .returned (.tuple #[.int .u64 (readM n S (placeM n S T u va 4 0 pick) 4 : Nat), .int .i64 (placeM n S T u va 4 0 pick).2.1]) ∧ Objs W (unO ub m b n k mm u S (placeM n S T u va 4 0 pick).2.2 os) w' ∧ Below W.heap.size W w' := by
  have HP := Lib.hid (read_any ub m b n k mm u S T os va 4 0 pick W w hv hp hu h)
  generalize placeM n S T u va 4 0 pick = p at *
  obtain ⟨at_, c, T'⟩ := p
  generalize readM n S (at_, c, T') 4 = r at *
  clear h hp hu hv
  simp only at HP ⊢
  go_enter Try.func14, Try.ntmps14
  go_wp2_with fail
  refine HP.out.mono ?_
  rintro e w1 ⟨rfl, hO1, hb1⟩
  go_wp2_with fail
  go_ret2
  exact ⟨rfl, hO1, hb1⟩
theorem mstore_any (v : Nat) (hv : va < 18446744073709551616) (hvv : v < 18446744073709551616) (hp : -9223372036854775808 ≤ pick ∧ pick < 9223372036854775808) (hu : u.Ok) (h : Objs W (unO ub m b n k mm u S T os) w) :
    Calls Try.prog 10 #[.pointer (some ⟨ub, 0, none⟩), .int .u64 va, .int .i64 size, .int .u64 v, .int .i64 pick] w fun e w' =>
      e = .returned (.int .i64 (placeM n S T u va size 2 pick).2.1) ∧ Objs W (unO ub m b n k mm u (storeM n S (placeM n S T u va size 2 pick) size v) (placeM n S T u va size 2 pick).2.2 os) w' ∧ Below W.heap.size W w' := by
  have HP := Lib.hid (mplace_any ub m b n k mm u S T os va size 2 pick W w hv hp hu h)
  have HLT := Lib.hid (placeM_lt (n := n) (S := S) (T := T) (u := u) (va := va) (size := size) (a := 2) (pick := pick))
  have HVV := Lib.hid hvv
  unfold PlaceR at HP
  generalize placeM n S T u va size 2 pick = p at *
  obtain ⟨at_, c, T'⟩ := p
  clear h hp hu hv hvv
  have HRD : Hid (storeM n S (at_, c, T') size v = if c = -1 then stR n S at_ size v else S) := Lib.hid rfl
  generalize storeM n S (at_, c, T') size v = S' at *
  simp only at HP HLT ⊢
  go_enter Try.func10, Try.ntmps10
  go_wp2_with fail
  refine HP.out.mono ?_
  rintro e w1 ⟨rfl, hO1, hb1⟩
  have HO1 := Lib.hid hO1
  clear hb1 hO1
  by_cases hc : c = -1
  · subst hc
    rw [if_pos rfl] at HRD
    have c0 := (HO1.out.blk 0 rfl).cell 0
    rw [un0] at c0
    have hul := (HO1.out.blk 0 rfl).lt
    go_wp2_with fail
    refine (HO1.out.memStore 2 rfl at_ size v HLT.out HVV.out).mono ?_
    rintro e w2 ⟨rfl, hO2, hb2⟩
    go_wp2_with fail
    go_ret
    refine ⟨rfl, ?_, hO2.bel⟩
    rw [HRD.out]
    exact hO2
  · rw [if_neg hc] at HRD
    have hc2 : (c == -1) = false := by simpa using hc
    go_wp2_with fail
    go_ret
    refine ⟨rfl, ?_, HO1.out.bel⟩
    rw [HRD.out]
    exact HO1.out
end
end Go.Proofs.Ytecalibnnfcaeaa

/- Swap; satp, mode, fence; a new unit. -/
namespace Go.Proofs.Ytecalibnnfcaeaa
open Go.RowKit

theorem fneq (f : FuncId) (cp : Value) (W : World) : (binOp .neq 60 (.func (.func f) #[] #[cp]) .nilFunc).run Try.prog W = .ok (.bool true) W := by kernel_rfl
section
variable (ub m b n k mm : Nat) (u : Un) (S : Nat → List Nat) (T : List (List En)) (os : List Obj) (va : Nat) (size a pick : Int) (W w : World)
set_option maxRecDepth 100000 in
set_option maxHeartbeats 2000000 in
theorem mswap_any (f : FuncId) (cp : Value) (g : Nat → Nat) (hcf : ∀ (args : Array Value) (W : World), (callFunc f args).run Try.prog W = .ok (.enter f args) W) (hg : ∀ x, g x < 18446744073709551616) (hc : ∀ (x : Nat) (S' : Nat → List Nat) (T' : List (List En)) (w' : World), Objs W (unO ub m b n k mm u S' T' os) w' → Calls Try.prog f #[.int .u64 (x : Int), cp] w' fun e w2 => e = .returned (.int .u64 (g x : Int)) ∧ w' = w2)
    (hv : va < 18446744073709551616) (hp : -9223372036854775808 ≤ pick ∧ pick < 9223372036854775808) (hu : u.Ok) (h : Objs W (unO ub m b n k mm u S T os) w) :
    Calls Try.prog 12 #[.pointer (some ⟨ub, 0, none⟩), .int .u64 va, .int .i64 size, .func (.func f) #[] #[cp], .int .i64 pick] w fun e w' =>
      e = .returned (.tuple #[.int .u64 (readM n S (placeM n S T u va size 2 pick) size : Nat), .int .i64 (placeM n S T u va size 2 pick).2.1]) ∧
      Objs W (unO ub m b n k mm u (storeM n S (placeM n S T u va size 2 pick) size (g (readM n S (placeM n S T u va size 2 pick) size))) (placeM n S T u va size 2 pick).2.2 os) w' ∧ Below W.heap.size W w' := by
  have HP := Lib.hid (mplace_any ub m b n k mm u S T os va size 2 pick W w hv hp hu h)
  have HLT := Lib.hid (placeM_lt (n := n) (S := S) (T := T) (u := u) (va := va) (size := size) (a := 2) (pick := pick))
  have HC := Lib.hid hc
  have HG := Lib.hid hg
  unfold PlaceR at HP
  generalize placeM n S T u va size 2 pick = p at *
  obtain ⟨at_, c, T'⟩ := p
  clear h hp hu hv hc hg
  have HRD : Hid (readM n S (at_, c, T') size = if c = -1 then ldR n S at_ size else 0) := Lib.hid rfl
  generalize readM n S (at_, c, T') size = r at *
  have HSD : Hid (storeM n S (at_, c, T') size (g r) = if c = -1 then stR n S at_ size (g r) else S) := Lib.hid rfl
  generalize storeM n S (at_, c, T') size (g r) = S' at *
  simp only at HP HLT ⊢
  go_enter Try.func12, Try.ntmps12
  go_wp2_with fail
  refine HP.out.mono ?_
  rintro e w1 ⟨rfl, hO1, hb1⟩
  have HO1 := Lib.hid hO1
  clear hb1 hO1
  by_cases hc : c = -1
  · subst hc
    rw [if_pos rfl] at HRD HSD
    have c0 := (HO1.out.blk 0 rfl).cell 0
    rw [un0] at c0
    have hul := (HO1.out.blk 0 rfl).lt
    go_wp2_with fail
    refine (HO1.out.memLoad 2 rfl at_ size HLT.out).mono ?_
    rintro e w2 ⟨rfl, rfl⟩
    rw [← HRD.out]
    have hfn := fneq f cp
    go_wp2_with fail
    have s0 : ∀ W', SameL [ub] w1.drew W' → W'.cell? ⟨ub, 0, none⟩ = some (.pointer (some ⟨m, 0, none⟩)) := fun W' h => h.cell (by simp) c0
    refine wp_region_plan_by (SameL [ub]) (later_same [ub]) [(0, false), (1, false), (2, false), (3, false), (4, false), (5, false), (6, false), (7, false), (8, true), (9, true)] (by kernel_rfl) (by kernel_rfl) (fun _ d _ _ _ h => by cases d <;> exact h) ?_
    iterate 8 (refine plan_take (v := ?_) rfl (by kernel_rfl) ?_ ?_; rotate_left; (focus (intro w' hw'; try go_simp; try with_reducible rfl)); simp only [Act.put, List.setIfInBounds_toArray, List.set_cons_zero, List.set_cons_succ])
    clear s0
    have HD1 := Lib.hid HO1.out.drew
    generalize w1.drew = y1 at HD1 ⊢
    refine plan_call rfl (by kernel_rfl) (by go_simp; exact ⟨rfl, rfl⟩) ?_
    refine (HC.out r S T' _ HD1.out).mono ?_
    rintro e w3 ⟨rfl, rfl⟩
    refine ⟨_, rfl, fun _ _ => rfl, ?_⟩
    simp only [Act.put, List.setIfInBounds_toArray, List.set_cons_zero, List.set_cons_succ]
    refine plan_call rfl (by kernel_rfl) (by go_simp; exact ⟨rfl, rfl⟩) ?_
    refine (HD1.out.memStore 2 rfl at_ size (g r) HLT.out (HG.out r)).mono ?_
    rintro e w4 ⟨rfl, hO4, hb4⟩
    have hS4 : SameL [ub] y1 w4 := fun q hq => by
      simp only [List.mem_singleton] at hq
      subst hq
      exact HD1.out.same hO4 0 0 rfl rfl
    refine ⟨_, rfl, hS4, ?_⟩
    simp only [Act.put, List.setIfInBounds_toArray, List.set_cons_zero, List.set_cons_succ]
    refine plan_end ?_
    go_wp2_with fail
    go_ret2
    refine ⟨rfl, ?_, hO4.bel⟩
    rw [HSD.out]
    exact hO4
  · rw [if_neg hc] at HRD HSD
    have hc2 : (c == -1) = false := by simpa using hc
    go_wp2_with fail
    go_ret2
    refine ⟨by rw [HRD.out]; rfl, ?_, HO1.out.bel⟩
    rw [HSD.out]
    exact HO1.out
theorem un_set (u : Un) (m b : Nat) (on : Bool) (asid : Int) (ppn : Nat) : (((u.cs m b).setIfInBounds 2 (.bool on)).setIfInBounds 3 (.int .i64 asid)).setIfInBounds 4 (.int .u64 (ppn : Int)) = ({ u with on := on, asid := asid, ppn := ppn } : Un).cs m b := rfl
theorem un_mode (u : Un) (m b : Nat) (x y z : Bool) : (((u.cs m b).setIfInBounds 5 (.bool x)).setIfInBounds 6 (.bool y)).setIfInBounds 7 (.bool z) = ({ u with user := x, sum := y, mxr := z } : Un).cs m b := rfl
/-- Is a word a satp? -/
def msatpB (x : Nat) : Bool := x / 1152921504606846976 == 0 || x / 1152921504606846976 == 8
def Un.satp (u : Un) (x : Nat) : Un := if msatpB x then { u with on := x / 1152921504606846976 == 8, asid := ((x / 17592186044416 % 65536 : Nat) : Int), ppn := x % 17592186044416 } else u
theorem Un.Ok.satp {u : Un} {x : Nat} (h : u.Ok) : (u.satp x).Ok := by
  unfold Un.satp
  split
  · exact ⟨by show x % 17592186044416 < _; omega, wf64 (by show (0 : Int) ≤ ((x / 17592186044416 % 65536 : Nat) : Int); omega) (by show ((x / 17592186044416 % 65536 : Nat) : Int) < _; omega)⟩
  · exact h
set_option maxHeartbeats 2000000 in
theorem setsatp_any (x : Nat) (hx : x < 18446744073709551616) (h : Objs W (unO ub m b n k mm u S T os) w) :
    Calls Try.prog 16 #[.pointer (some ⟨ub, 0, none⟩), .int .u64 x] w fun e w' => e = .returned (.bool (msatpB x)) ∧ Objs W (unO ub m b n k mm (u.satp x) S T os) w' := by
  have HO := Lib.hid h
  clear h
  cases hs : msatpB x with
  | false =>
    have HN : Hid (x / 1152921504606846976 ≠ 0 ∧ x / 1152921504606846976 ≠ 8) := Lib.hid (by simp only [msatpB, Bool.or_eq_false_iff, beq_eq_false_iff_ne] at hs; exact hs)
    have HU : Hid (u.satp x = u) := Lib.hid (by unfold Un.satp; rw [hs]; rfl)
    have HX := Lib.hid hx
    clear hs hx
    go_enter Try.func16, Try.ntmps16
    go_wp2_with fail
    refine (getsatp_no x _ HN.out.1 HN.out.2).mono ?_
    rintro e w1 ⟨rfl, hb1⟩
    have ho := (HO.out.step hb1).step (ext_alloc _ (.cells #[.bool false, .int .i64 0, .int .u64 0] 43))
    have HO1 := Lib.hid ho
    clear ho hb1
    go_wp2_with fail
    go_ret
    exact ⟨rfl, by rw [HU.out]; exact HO1.out⟩
  | true =>
    obtain ⟨bb, hbb⟩ : ∃ bb, bb = (x / 1152921504606846976 == 8) := ⟨_, rfl⟩
    have HN : Hid ((bb = false ∧ x / 1152921504606846976 = 0) ∨ (bb = true ∧ x / 1152921504606846976 = 8)) := Lib.hid (by
      simp only [msatpB, Bool.or_eq_true, beq_iff_eq] at hs
      rcases hs with h | h
      · exact .inl ⟨by rw [hbb, h]; rfl, h⟩
      · exact .inr ⟨by rw [hbb, h]; rfl, h⟩)
    have HU : Hid (u.satp x = { u with on := bb, asid := ((x / 17592186044416 % 65536 : Nat) : Int), ppn := x % 17592186044416 }) := Lib.hid (by unfold Un.satp; rw [hs, if_pos rfl, hbb])
    have HX := Lib.hid hx
    have HG := Lib.hid (fun W => getsatp_yes x bb W HX.out HN.out)
    clear hs hx hbb HN
    generalize x / 17592186044416 % 65536 = asid at *
    generalize x % 17592186044416 = ppn at *
    go_enter Try.func16, Try.ntmps16
    go_wp2_with fail
    refine (HG.out _).mono ?_
    rintro e w1 ⟨rfl, hb1⟩
    have ho := (HO.out.step hb1).step (ext_alloc _ (.cells #[.bool bb, .int .i64 (asid : Int), .int .u64 (ppn : Int)] 43))
    have HO1 := Lib.hid ho
    have hbk := ho.blk 0 rfl
    have d2 := hbk.cell 2
    have d3 := hbk.cell 3
    have d4 := hbk.cell 4
    rw [un2] at d2
    rw [un3] at d3
    rw [un4] at d4
    have hul := hbk.lt
    have hfr := fun i => Blk.frozen hbk i
    clear ho hb1 hbk
    go_wp2_with fail
    go_ret
    refine ⟨rfl, ?_⟩
    rw [HU.out]
    exact ((HO1.out.set_ 0 rfl 2 (.bool bb)).set_ 0 rfl 3 (.int .i64 (asid : Int))).set_ 0 rfl 4 (.int .u64 (ppn : Int))
theorem satp_any (h : Objs W (unO ub m b n k mm u S T os) w) :
    Calls Try.prog 22 #[.pointer (some ⟨ub, 0, none⟩)] w fun e w' => e = .returned (.agg #[.bool u.on, .int .i64 u.asid, .int .u64 (u.ppn : Int)]) ∧ Ext w w' := by
  have HO := Lib.hid (h.step (ext_alloc _ (.cells #[.bool false, .int .i64 0, .int .u64 0] 43)))
  have hbk := HO.out.blk 0 rfl
  have d2 := hbk.cell 2
  have d3 := hbk.cell 3
  have d4 := hbk.cell 4
  rw [un2] at d2
  rw [un3] at d3
  rw [un4] at d4
  have hul := hbk.lt
  clear h hbk
  go_enter Try.func22, Try.ntmps22
  go_wp2_with fail
  refine bodyPost_ret (v := .agg #[.bool u.on, .int .i64 u.asid, .int .u64 (u.ppn : Int)]) (by simp [results, Try.results22, go_sem]) rfl ⟨rfl, ?_⟩
  exact ext_alloc _ _
theorem setmode_any (x y z : Bool) (h : Objs W (unO ub m b n k mm u S T os) w) :
    Calls Try.prog 17 #[.pointer (some ⟨ub, 0, none⟩), .agg #[.bool x, .bool y, .bool z]] w fun e w' => e = .returned (.tuple #[]) ∧ Objs W (unO ub m b n k mm { u with user := x, sum := y, mxr := z } S T os) w' := by
  have HO := Lib.hid (h.step (ext_alloc _ (.cells #[.bool x, .bool y, .bool z] 45)))
  have hbk := HO.out.blk 0 rfl
  have d5 := hbk.cell 5
  have d6 := hbk.cell 6
  have d7 := hbk.cell 7
  change _ = some (Value.bool u.user) at d5
  change _ = some (Value.bool u.sum) at d6
  change _ = some (Value.bool u.mxr) at d7
  have hul := hbk.lt
  have hfr := fun i => Blk.frozen hbk i
  clear h hbk
  go_enter Try.func17, Try.ntmps17
  go_wp2_with fail
  refine bodyPost_end (results_none rfl _ _ _) rfl ?_
  refine ⟨rfl, ?_⟩
  exact ((HO.out.set_ 0 rfl 5 (.bool x)).set_ 0 rfl 6 (.bool y)).set_ 0 rfl 7 (.bool z)
theorem mfence_any (vo : Option Nat) (ao : Option Int) (V A : Value) (hv : ∀ va, vo = some va → va < 18446744073709551616) (hV : OneU w vo V) (hA : OneI w ao A) (h : Objs W (unO ub m b n k mm u S T os) w) :
    Calls Try.prog 18 #[.pointer (some ⟨ub, 0, none⟩), V, A] w fun e w' => e = .returned (.int .i64 (fenceN T vo ao : Nat)) ∧ Objs W (unO ub m b n k mm u S (fenceS T vo ao) os) w' := by
  have HO := Lib.hid h
  have HC := Lib.hid (h.bufFence 1 rfl vo ao V A hv hV hA)
  have hbk := h.blk 0 rfl
  have d1 := hbk.cell 1
  rw [un1] at d1
  have hul := hbk.lt
  clear h hbk hV hA
  go_enter Try.func18, Try.ntmps18
  go_wp2_with fail
  refine HC.out.mono ?_
  rintro e w1 ⟨rfl, hO1, hb1⟩
  go_wp2_with fail
  go_ret
  exact ⟨rfl, hO1⟩
def un0U : Un := ⟨false, 0, 0, false, false, false⟩
theorem mnew_any : Calls Try.prog 7 #[.pointer (some ⟨m, 0, none⟩), .pointer (some ⟨b, 0, none⟩)] w fun e w' => e = .returned (.pointer (some ⟨w.heap.size, 0, none⟩)) ∧ w.alloc (.cells (un0U.cs m b) 87) = w' := by
  go_enter Try.func7, Try.ntmps7
  go_wp2_with fail
  go_ret
  exact ⟨rfl, rfl⟩
theorem mnew_nil (v : Value) : Calls Try.prog 7 #[.pointer none, .pointer (some ⟨b, 0, none⟩)] w fun e w' => e = .returned (.pointer none) ∧ w = w' := by
  go_enter Try.func7, Try.ntmps7
  go_wp2_with fail
  go_ret
  exact ⟨rfl, rfl⟩
end
end Go.Proofs.Ytecalibnnfcaeaa
