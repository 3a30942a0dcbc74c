/- Merged texts: MmuF, MmuG, MmuH, MmuJ, SpcA, SpcB, SpcC. -/
import Derived.Test.YtophcgbddccpeaaGreatSk15
/- The place of an access. -/
namespace Go.Proofs.YtophcgbddccpeaaGreat
open Go.RowKit

theorem joinV_lt (ppn va : Nat) (lev : Int) : joinV ppn va lev < 18446744073709551616 := by
  unfold joinV
  cases hl : levelB lev with
  | false => simp
  | true =>
    rw [if_pos rfl]
    have hp : ppn * 4096 % 18446744073709551616 < 18446744073709551616 := Nat.mod_lt _ (by decide)
    generalize ppn * 4096 % 18446744073709551616 = p at *
    rcases level_cases hl with rfl | rfl | rfl
    · rw [show spanV 0 = 4096 by decide]; omega
    · rw [show spanV 1 = 2097152 by decide]; omega
    · rw [show spanV 2 = 1073741824 by decide]; omega
def Tf.pte (l : Tf) : Array Value := #[.bool l.v, .bool l.r, .bool l.w, .bool l.x, .bool l.u, .bool l.g, .bool l.a, .bool l.d, .int .i64 l.rsw, .int .u64 l.ppn]
theorem tfp_row (l : Tf) : rowT Tryz.prog 96 l.pte.size = true := by rw [show l.pte.size = 10 from rfl]; kernel_rfl
theorem pte_range {w : World} {g : Nat} {l : Tf} (h : w.rangeAt g 0 l.cs.toList) : w.rangeAt g 0 l.pte.toList := fun j v hv => by
  refine h j v ?_
  have hj : j < 10 := by
    rcases Nat.lt_or_ge j 10 with h1 | h1
    · exact h1
    · rw [List.getElem?_eq_none (by simpa [Tf.pte] using h1)] at hv; cases hv
  rcases (show j = 0 ∨ j = 1 ∨ j = 2 ∨ j = 3 ∨ j = 4 ∨ j = 5 ∨ j = 6 ∨ j = 7 ∨ j = 8 ∨ j = 9 by omega) with rfl | rfl | rfl | rfl | rfl | rfl | rfl | rfl | rfl | rfl <;> exact hv
theorem place_tf (l : Tf) (va : Nat) (W : World) (hv : va < 18446744073709551616) (hl : l.ppn < 18446744073709551616) :
    Calls Tryz.prog 55 #[.agg l.cs, .int .u64 (va : Int)] W fun e w' => e = .returned (.int .u64 ((joinV l.ppn va l.lev : Nat) : Int)) ∧ Ext W w' := by
  have HV := Lib.hid hv
  have HL := Lib.hid hl
  clear hv hl
  unfold Tf.cs
  go_enter Tryz.func55, Tryz.ntmps55
  go_wp2_with fail
  refine (join_any l.ppn va l.lev _ HL.out HV.out).mono ?_
  rintro e w' ⟨rfl, rfl⟩
  go_wp2_with fail
  go_ret
  exact ⟨rfl, ext_alloc _ _⟩
theorem Objs.memLe {W w : World} {os : List Obj} {g n : Nat} {S : Nat → List Nat} (h : Objs W os w) (i : Nat) (hi : os[i]? = some (memO g n S)) : 1 ≤ n ∧ n ≤ 1048576 := by
  obtain ⟨F, ⟨mb, loc, K, hM, _⟩, _⟩ := h.get i _ hi
  exact ⟨hM.n1, hM.n2⟩
def PlaceR (W : World) (ub m b n k mm : Nat) (u : Un) (S : Nat → List Nat) (T : List (List En)) (os : List Obj) (va : Nat) (size a pick : Int) (e : Ending) (w' : World) : Prop :=
  e = .returned (.tuple #[.int .u64 ((placeM n S T u va size a pick).1 : Nat), .int .i64 (placeM n S T u va size a pick).2.1]) ∧ Objs W (unO ub m b n k mm u S (placeM n S T u va size a pick).2.2 os) w' ∧ Below W.heap.size W w'
theorem lf_ppn {l : Tf} (h : tlb_LfWf l) : l.ppn < 18446744073709551616 := by
  have := u64_of_wf h.2.1
  omega
set_option maxRecDepth 100000 in
set_option maxHeartbeats 4000000 in
theorem mplace_any (ub m b n k mm : Nat) (u : Un) (S : Nat → List Nat) (T : List (List En)) (os : List Obj) (va : Nat) (size a pick : Int) (W w : World) (hv : va < 18446744073709551616) (hp : -9223372036854775808 ≤ pick ∧ pick < 9223372036854775808) (hu : u.Ok)
    (h : Objs W (unO ub m b n k mm u S T os) w) :
    Calls Tryz.prog 33 #[.pointer (some ⟨ub, 0, none⟩), .int .u64 va, .int .i64 size, .int .i64 a, .int .i64 pick] w (PlaceR W ub m b n k mm u S T os va size a pick) := by
  have HO := Lib.hid h
  have HV := Lib.hid hv
  have HWF := Lib.hid (leafM_wf (n := n) (S := S) (u := u) (va := va) (a := a) (pick := pick) (h.bufTG 1 rfl).2)
  have HLA := Lib.hid (mleaf_any ub m b n k mm u S T os va a pick W w hv hp hu h)
  have HN := Lib.hid (h.memLe 2 rfl).2
  clear h hp hu hv
  cases hal : alignedB va size with
  | false =>
    have HPM : Hid (placeM n S T u va size a pick = (0, causeV a 0 4 6, T)) := Lib.hid (by unfold placeM; rw [hal]; rfl)
    have HAL := Lib.hid hal
    clear hal
    go_enter Tryz.func33, Tryz.ntmps33
    go_wp2_with fail
    refine (aligned_any va size _ HV.out).mono ?_
    rintro e w1 ⟨rfl, rfl⟩
    rw [HAL.out]
    go_wp2_with fail
    refine (align_any a _).mono ?_
    rintro e w1 ⟨rfl, rfl⟩
    go_wp2_with fail
    go_ret2
    unfold PlaceR
    rw [HPM.out]
    have ho := HO.out.step (ext_alloc _ (.cells #[.int .i64 0, .int .i64 4, .int .i64 6] 155))
    exact ⟨rfl, ho, ho.bel⟩
  | true =>
    obtain ⟨lf, c, T', hL⟩ : ∃ lf c T', leafM n S T u va a pick = (lf, c, T') := ⟨_, _, _, rfl⟩
    have HPM : Hid (placeM n S T u va size a pick = if c = -1 then (if checkB lf.v lf.r lf.w lf.x lf.u lf.a lf.d a u.user u.sum u.mxr then (if joinV lf.ppn va lf.lev / 4096 < n then (joinV lf.ppn va lf.lev, -1, T') else (0, causeV a 1 5 7, T')) else (0, causeV a 12 13 15, T')) else (0, c, T')) := Lib.hid (by unfold placeM; rw [hal, hL]; rfl)
    unfold LeafR at HLA
    rw [hL] at HLA HWF
    have HAL := Lib.hid hal
    clear hal hL
    go_enter Tryz.func33, Tryz.ntmps33
    go_wp2_with fail
    refine (aligned_any va size _ HV.out).mono ?_
    rintro e w1 ⟨rfl, rfl⟩
    rw [HAL.out]
    go_wp2_with fail
    refine HLA.out.mono ?_
    rintro e w1 ⟨rfl, hO1, hb1⟩
    have HO1 := Lib.hid (hO1.push lf.cs 98 rfl)
    clear hO1 hb1 HO HLA
    by_cases hc : c = -1
    · subst hc
      rw [if_pos rfl] at HPM
      go_wp2_with ((with_reducible refine wl_store_new 98 (.tmp 12) (.tmp 31) rfl ?_ w1 (World.heap w1).size 98 tlb_lf0.cs lf.cs ?_ ?_ ?_ ?_ ?_ ?_ ?_ ?_); exact rfl; exact rfl; exact rfl; exact rfl; exact rfl; exact rfl; exact tlb_leaf_row lf; exact tlb_lcs_one lf)
      refine wp_world (fun w2 hw2 => ?_)
      have HO2 : Hid (Objs W (blkO w1.heap.size 98 lf.cs :: unO ub m b n k mm u S T' os) w2) := Lib.hid (by rw [hw2]; exact HO1.out)
      clear hw2 HO1
      generalize w1.heap.size = g at *
      have s5 : ∀ W', SameL [ub, g] w2.drew W' → W'.cell? ⟨ub, 5, none⟩ = some (.bool u.user) := fun W' h => h.cell (by simp) ((HO2.out.drew.blk 1 rfl).cell 5)
      have s6 : ∀ W', SameL [ub, g] w2.drew W' → W'.cell? ⟨ub, 6, none⟩ = some (.bool u.sum) := fun W' h => h.cell (by simp) ((HO2.out.drew.blk 1 rfl).cell 6)
      have s7 : ∀ W', SameL [ub, g] w2.drew W' → W'.cell? ⟨ub, 7, none⟩ = some (.bool u.mxr) := fun W' h => h.cell (by simp) ((HO2.out.drew.blk 1 rfl).cell 7)
      refine wp_region_plan_by (SameL [ub, g]) (later_same [ub, g]) [(0, false), (1, false), (2, false), (3, false), (4, false), (5, false), (6, false), (7, true), (8, false)] (by kernel_rfl) (by kernel_rfl) (fun _ d _ _ _ h => by cases d <;> exact h) ?_
      iterate 1 (refine plan_take (v := ?_) rfl (by kernel_rfl) ?_ ?_; rotate_left; (focus (intro w' hw'; try go_simp; try with_reducible rfl)); simp only [Act.put, List.setIfInBounds_toArray, List.set_cons_zero, List.set_cons_succ])
      refine plan_take (v := .agg lf.pte) rfl (by kernel_rfl) (fun w' hw' => run_load_op 96 (.tmp 36) rfl g 0 lf.pte rfl (pte_range (hw'.blk (by simp) (HO2.out.drew.blk 0 rfl)).range) (tfp_row lf)) ?_
      simp only [Act.put, List.setIfInBounds_toArray, List.set_cons_zero, List.set_cons_succ]
      iterate 5 (refine plan_take (v := ?_) rfl (by kernel_rfl) ?_ ?_; rotate_left; (focus (intro w' hw'; try go_simp; try with_reducible rfl)); simp only [Act.put, List.setIfInBounds_toArray, List.set_cons_zero, List.set_cons_succ])
      clear s5 s6 s7
      have HD2 := Lib.hid HO2.out.drew
      generalize w2.drew = y2 at HD2 ⊢
      clear HO2
      refine plan_call rfl (by kernel_rfl) (by go_simp; exact ⟨rfl, rfl⟩) ?_
      refine (perm_check_any lf.v lf.r lf.w lf.x lf.u lf.g lf.a lf.d lf.rsw lf.ppn a u.user u.sum u.mxr _).mono ?_
      rintro e y3 ⟨rfl, hb3⟩
      have hS3 : SameL [ub, g] y2 y3 := SameL.ext hb3 (fun q hq => by
          simp only [List.mem_cons, List.not_mem_nil, or_false] at hq
          rcases hq with rfl | rfl
          · exact (HD2.out.blk 1 rfl).lt
          · exact (HD2.out.blk 0 rfl).lt)
      have HO3 := Lib.hid (HD2.out.step hb3)
      refine ⟨_, rfl, hS3, ?_⟩
      simp only [Act.put, List.setIfInBounds_toArray, List.set_cons_zero, List.set_cons_succ]
      clear hb3 HD2
      cases hck : checkB lf.v lf.r lf.w lf.x lf.u lf.a lf.d a u.user u.sum u.mxr with
      | false =>
        rw [hck, if_neg (by decide)] at HPM
        iterate 1 (refine plan_take (v := ?_) rfl (by kernel_rfl) ?_ ?_; rotate_left; (focus (intro w' hw'; try go_simp; try with_reducible rfl)); simp only [Act.put, List.setIfInBounds_toArray, List.set_cons_zero, List.set_cons_succ])
        refine plan_end ?_
        go_wp2_with fail
        refine (page_any a _).mono ?_
        rintro e w4 ⟨rfl, rfl⟩
        have HO4 := Lib.hid (HO3.out.step (ext_alloc _ (.cells #[.int .i64 12, .int .i64 13, .int .i64 15] 155)))
        go_wp2_with fail
        go_ret2
        unfold PlaceR
        rw [HPM.out]
        exact ⟨rfl, HO4.out.drop 1, HO4.out.bel⟩
      | true =>
        rw [hck, if_pos rfl] at HPM
        clear hck
        iterate 1 (refine plan_take (v := ?_) rfl (by kernel_rfl) ?_ ?_; rotate_left; (focus (intro w' hw'; try go_simp; try with_reducible rfl)); simp only [Act.put, List.setIfInBounds_toArray, List.set_cons_zero, List.set_cons_succ])
        refine plan_end ?_
        have hrg := lf_range (i := 0) HO3.out rfl
        go_wp2_with ((with_reducible refine wl_load 98 (.tmp 12) rfl ?_ g 0 lf.cs ?_ hrg ?_ ?_); exact rfl; exact rfl; exact tlb_leaf_row lf)
        refine (place_tf lf va _ HV.out (lf_ppn HWF.out)).mono ?_
        rintro e w4 ⟨rfl, hx4⟩
        have HO4 := Lib.hid (HO3.out.step hx4)
        have HLT : Hid (joinV lf.ppn va lf.lev < 18446744073709551616) := Lib.hid (joinV_lt _ _ _)
        generalize joinV lf.ppn va lf.lev = at_ at *
        obtain ⟨q, hq⟩ : ∃ q, q = at_ / 4096 := ⟨_, rfl⟩
        rw [← hq] at HPM
        have hqd : (at_ : Int) / 4096 = (q : Int) := by rw [hq]; rfl
        have hq2 : q < 4503599627370496 := by have := HLT.out; omega
        clear hq hrg hx4
        have c0 := (HO4.out.blk 1 rfl).cell 0
        rw [un0] at c0
        have hul := (HO4.out.blk 1 rfl).lt
        have hnw : IntKind.u64.wrap (n : Int) = (n : Int) := by have := HN.out; rw [IntKind.wrap_u64]; omega
        go_wp2_with fail
        refine (HO4.out.memFrames 3 rfl).mono ?_
        rintro e w5 ⟨rfl, rfl⟩
        by_cases hlt : q < n
        · rw [if_pos hlt] at HPM
          have hg : decide ((n : Int) ≤ (q : Int)) = false := by simp only [decide_eq_false_iff_not]; omega
          go_wp2_with fail
          go_ret2
          unfold PlaceR
          rw [HPM.out]
          exact ⟨rfl, HO4.out.drop 1, HO4.out.bel⟩
        · rw [if_neg hlt] at HPM
          have hg : decide ((n : Int) ≤ (q : Int)) = true := by simp only [decide_eq_true_eq]; omega
          go_wp2_with fail
          refine (bound_any a _).mono ?_
          rintro e w6 ⟨rfl, rfl⟩
          have HO5 := Lib.hid (HO4.out.step (ext_alloc _ (.cells #[.int .i64 1, .int .i64 5, .int .i64 7] 155)))
          go_wp2_with fail
          go_ret2
          unfold PlaceR
          rw [HPM.out]
          exact ⟨rfl, HO5.out.drop 1, HO5.out.bel⟩
    · rw [if_neg hc] at HPM
      have hc2 : (c == -1) = false := by simpa using hc
      go_wp2_with ((with_reducible refine wl_store_new 98 (.tmp 12) (.tmp 31) rfl ?_ w1 (World.heap w1).size 98 tlb_lf0.cs lf.cs ?_ ?_ ?_ ?_ ?_ ?_ ?_ ?_); exact rfl; exact rfl; exact rfl; exact rfl; exact rfl; exact rfl; exact tlb_leaf_row lf; exact tlb_lcs_one lf)
      go_ret2
      unfold PlaceR
      rw [HPM.out]
      exact ⟨rfl, HO1.out.drop 1, HO1.out.bel⟩
end Go.Proofs.YtophcgbddccpeaaGreat

/- Reading, storing, swapping; satp, mode, fence. -/
namespace Go.Proofs.YtophcgbddccpeaaGreat
open Go.RowKit

theorem find_set {l : List En} {v : Nat} {fe : En} {p : En → Bool} (hv : v < l.length) (h : ∀ e ∈ l, p e = false) : (l.set v fe).find? p = if p fe then some fe else none := by
  cases hp : p fe with
  | false =>
    rw [if_neg (by decide), List.find?_eq_none]
    intro x hx
    rcases List.mem_or_eq_of_mem_set hx with h1 | h1
    · rw [h x h1]; decide
    · rw [h1, hp]; decide
  | true =>
    rw [if_pos rfl]
    cases hf : (l.set v fe).find? p with
    | none =>
      rw [List.find?_eq_none] at hf
      exact absurd hp (by simpa using hf fe (List.mem_of_getElem? (by rw [List.getElem?_set_self hv])))
    | some y =>
      have hy := List.find?_some hf
      rcases List.mem_or_eq_of_mem_set (List.mem_of_find?_eq_some hf) with h1 | h1
      · rw [h y h1] at hy; cases hy
      · rw [h1]
theorem way_none {l : List En} {lev : Int} {va : Nat} {asid : Int} (h : wayFind l lev va asid = none) : ∀ e ∈ l, hitB lev va asid e = false := by
  unfold wayFind at h
  rw [Option.map_eq_none_iff, List.find?_eq_none] at h
  intro e he
  have := h e he
  simpa using this
/-- What was not there and has been filled in is found. -/
theorem find_fill {T : List (List En)} {k m va : Nat} {asid pick : Int} {lf : Tf} (hK : TOk T k m) (hl : levOK lf.lev = true) (h : findS T va asid = none) : findS (fillS T va asid lf pick) va asid = some lf := by
  have hq : fillQ T va lf < T.length := by unfold fillQ; rw [hK.len]; exact Nat.mod_lt _ hK.n0
  have hw : (T.getD (fillQ T va lf) []).length = m := hK.ways _ (by rw [← hK.len]; exact hq)
  have hv : victimN (T.getD (fillQ T va lf) []) (fillE va asid lf) pick < (T.getD (fillQ T va lf) []).length := victim_lt _ _ _ (by rw [hw]; exact hK.m0)
  unfold findS at h
  simp only [Option.or_eq_none_iff] at h
  obtain ⟨h0, h1, h2⟩ := h
  have key : ∀ l : Int, wayFind (T.getD (pgN va l % T.length) []) l va asid = none → wayFind ((fillS T va asid lf pick).getD (pgN va l % T.length) []) l va asid = if lf.lev = l then some lf else none := by
    intro l hn
    unfold fillS
    by_cases hi : pgN va l % T.length = fillQ T va lf
    · rw [hi, List.getD_eq_getElem?_getD, List.getElem?_set_self hq]
      rw [hi] at hn
      unfold wayFind
      rw [Option.getD_some, find_set hv (way_none hn)]
      have hb : hitB l va asid (fillE va asid lf) = decide (lf.lev = l) := by
        unfold hitB matchB hasB fillE
        by_cases e : lf.lev = l <;> simp [e]
      rw [hb]
      by_cases e : lf.lev = l
      · simp [e]; rfl
      · simp [e]
    · have hne : ¬ lf.lev = l := fun e => hi (by rw [← e]; rfl)
      rw [if_neg hne, List.getD_eq_getElem?_getD, List.getElem?_set_ne (fun e => hi e.symm), ← List.getD_eq_getElem?_getD]
      exact hn
  unfold findS
  rw [fillS_length, key 0 h0, key 1 h1, key 2 h2]
  rcases lev_cases hl with e | e | e <;> simp [e]
section
variable {n k m va : Nat} {S : Nat → List Nat} {T : List (List En)} {u : Un} {a pick size : Int}
theorem fdT_lev (n : Nat) (S : Nat → List Nat) (on : Bool) (ppn va : Nat) : levOK (fdT (findW n S on ppn va)).lev = true := by
  cases h : findW n S on ppn va with
  | err e => rfl
  | leaf x l a =>
    have hl : l ≤ 2 := by
      unfold findW at h
      split at h
      · split at h
        · exact (findF_lev 2 _ (by omega) h).1
        · cases h
      · cases h
    unfold fdT levOK
    simp only
    rcases (show l = 0 ∨ l = 1 ∨ l = 2 by omega) with rfl | rfl | rfl <;> rfl
theorem leafM_twice (hK : TOk T k m) : leafM n S (leafM n S T u va a pick).2.2 u va a pick = leafM n S T u va a pick := by
  cases hf : findS T va u.asid with
  | some lf =>
    have e : leafM n S T u va a pick = (lf, -1, T) := by unfold Proofs.YtophcgbddccpeaaGreat.leafM; rw [hf]
    rw [e, e]
  | none =>
    by_cases h0 : fdE (findW n S u.on u.ppn va) = 0
    · have e : leafM n S T u va a pick = (fdT (findW n S u.on u.ppn va), -1, fillB T va u.asid (fdT (findW n S u.on u.ppn va)) pick) := by
        unfold Proofs.YtophcgbddccpeaaGreat.leafM; rw [hf]; simp only [if_pos h0]
      rw [e]
      have h2 : findS (fillB T va u.asid (fdT (findW n S u.on u.ppn va)) pick) va u.asid = some (fdT (findW n S u.on u.ppn va)) := by
        unfold fillB
        rw [if_pos (fdT_lev _ _ _ _ _)]
        exact find_fill hK (fdT_lev _ _ _ _ _) hf
      show Proofs.YtophcgbddccpeaaGreat.leafM n S (fillB T va u.asid (fdT (findW n S u.on u.ppn va)) pick) u va a pick = _
      unfold Proofs.YtophcgbddccpeaaGreat.leafM
      rw [h2]
    · have e : leafM n S T u va a pick = (fdT (findW n S u.on u.ppn va), if fdE (findW n S u.on u.ppn va) = 61 then causeV a 1 5 7 else causeV a 12 13 15, T) := by
        unfold Proofs.YtophcgbddccpeaaGreat.leafM; rw [hf]; simp only [if_neg h0]
      rw [e, e]
theorem placeM_T : (placeM n S T u va size a pick).2.2 = if alignedB va size then (leafM n S T u va a pick).2.2 else T := by
  unfold placeM
  split
  · split
    · split
      · split <;> rfl
      · rfl
    · rfl
  · rfl
theorem placeM_twice (hK : TOk T k m) : placeM n S (placeM n S T u va size a pick).2.2 u va size a pick = placeM n S T u va size a pick := by
  rw [placeM_T]
  by_cases h : alignedB va size = true
  · rw [if_pos h]
    unfold placeM
    rw [if_pos h, if_pos h, leafM_twice hK]
  · rw [if_neg h]
theorem placeM_lt : (placeM n S T u va size a pick).1 < 18446744073709551616 := by
  unfold placeM
  split
  · split
    · split
      · split
        · exact joinV_lt _ _ _
        · simp
      · simp
    · simp
  · simp
theorem TG.placeM (h : TG T k m) (ha : (Lit.int .i64 u.asid).wf = true) : TG (placeM n S T u va size a pick).2.2 k m := by
  rw [placeM_T]
  split
  · exact h.leafM ha
  · exact h
end
/-- What is read, and the cause. -/
def readM (n : Nat) (S : Nat → List Nat) (p : Nat × Int × List (List En)) (size : Int) : Nat := if p.2.1 = -1 then ldR n S p.1 size else 0
def storeM (n : Nat) (S : Nat → List Nat) (p : Nat × Int × List (List En)) (size : Int) (v : Nat) : Nat → List Nat := if p.2.1 = -1 then stR n S p.1 size v else S
section
variable (ub m b n k mm : Nat) (u : Un) (S : Nat → List Nat) (T : List (List En)) (os : List Obj) (va : Nat) (size a pick : Int) (W w : World)
set_option maxHeartbeats 1000000 in
theorem read_any (hv : va < 18446744073709551616) (hp : -9223372036854775808 ≤ pick ∧ pick < 9223372036854775808) (hu : u.Ok) (h : Objs W (unO ub m b n k mm u S T os) w) :
    Calls Tryz.prog 35 #[.pointer (some ⟨ub, 0, none⟩), .int .u64 va, .int .i64 size, .int .i64 a, .int .i64 pick] w fun e w' =>
      e = .returned (.tuple #[.int .u64 (readM n S (placeM n S T u va size a pick) size : Nat), .int .i64 (placeM n S T u va size a pick).2.1]) ∧ Objs W (unO ub m b n k mm u S (placeM n S T u va size a pick).2.2 os) w' ∧ Below W.heap.size W w' := by
  have HP := Lib.hid (mplace_any ub m b n k mm u S T os va size a pick W w hv hp hu h)
  have HLT := Lib.hid (placeM_lt (n := n) (S := S) (T := T) (u := u) (va := va) (size := size) (a := a) (pick := pick))
  unfold PlaceR at HP
  generalize placeM n S T u va size a pick = p at *
  obtain ⟨at_, c, T'⟩ := p
  clear h hp hu hv
  have HRD : Hid (readM n S (at_, c, T') size = if c = -1 then ldR n S at_ size else 0) := Lib.hid rfl
  generalize readM n S (at_, c, T') size = r at *
  simp only at HP HLT ⊢
  go_enter Tryz.func35, Tryz.ntmps35
  go_wp2_with fail
  refine HP.out.mono ?_
  rintro e w1 ⟨rfl, hO1, hb1⟩
  have HO1 := Lib.hid hO1
  clear hb1 hO1
  by_cases hc : c = -1
  · subst hc
    rw [if_pos rfl] at HRD
    have c0 := (HO1.out.blk 0 rfl).cell 0
    rw [un0] at c0
    have hul := (HO1.out.blk 0 rfl).lt
    go_wp2_with fail
    refine (HO1.out.memLoad 2 rfl at_ size HLT.out).mono ?_
    rintro e w2 ⟨rfl, rfl⟩
    rw [← HRD.out]
    go_wp2_with fail
    go_ret2
    exact ⟨rfl, HO1.out, HO1.out.bel⟩
  · rw [if_neg hc] at HRD
    have hc2 : (c == -1) = false := by simpa using hc
    go_wp2_with fail
    go_ret2
    exact ⟨by rw [HRD.out]; rfl, HO1.out, HO1.out.bel⟩
theorem mload_any (hv : va < 18446744073709551616) (hp : -9223372036854775808 ≤ pick ∧ pick < 9223372036854775808) (hu : u.Ok) (h : Objs W (unO ub m b n k mm u S T os) w) :
    Calls Tryz.prog 11 #[.pointer (some ⟨ub, 0, none⟩), .int .u64 va, .int .i64 size, .int .i64 pick] w fun e w' =>
      e = .returned (.tuple #[.int .u64 (readM n S (placeM n S T u va size 1 pick) size : Nat), .int .i64 (placeM n S T u va size 1 pick).2.1]) ∧ Objs W (unO ub m b n k mm u S (placeM n S T u va size 1 pick).2.2 os) w' ∧ Below W.heap.size W w' := by
  have HP := Lib.hid (read_any ub m b n k mm u S T os va size 1 pick W w hv hp hu h)
  generalize placeM n S T u va size 1 pick = p at *
  obtain ⟨at_, c, T'⟩ := p
  generalize readM n S (at_, c, T') size = r at *
  clear h hp hu hv
  simp only at HP ⊢
  go_enter Tryz.func11, Tryz.ntmps11
  go_wp2_with fail
  refine HP.out.mono ?_
  rintro e w1 ⟨rfl, hO1, hb1⟩
  go_wp2_with fail
  go_ret2
  exact ⟨rfl, hO1, hb1⟩
theorem mstore_any (v : Nat) (hv : va < 18446744073709551616) (hvv : v < 18446744073709551616) (hp : -9223372036854775808 ≤ pick ∧ pick < 9223372036854775808) (hu : u.Ok) (h : Objs W (unO ub m b n k mm u S T os) w) :
    Calls Tryz.prog 10 #[.pointer (some ⟨ub, 0, none⟩), .int .u64 va, .int .i64 size, .int .u64 v, .int .i64 pick] w fun e w' =>
      e = .returned (.int .i64 (placeM n S T u va size 2 pick).2.1) ∧ Objs W (unO ub m b n k mm u (storeM n S (placeM n S T u va size 2 pick) size v) (placeM n S T u va size 2 pick).2.2 os) w' ∧ Below W.heap.size W w' := by
  have HP := Lib.hid (mplace_any ub m b n k mm u S T os va size 2 pick W w hv hp hu h)
  have HLT := Lib.hid (placeM_lt (n := n) (S := S) (T := T) (u := u) (va := va) (size := size) (a := 2) (pick := pick))
  have HVV := Lib.hid hvv
  unfold PlaceR at HP
  generalize placeM n S T u va size 2 pick = p at *
  obtain ⟨at_, c, T'⟩ := p
  clear h hp hu hv hvv
  have HRD : Hid (storeM n S (at_, c, T') size v = if c = -1 then stR n S at_ size v else S) := Lib.hid rfl
  generalize storeM n S (at_, c, T') size v = S' at *
  simp only at HP HLT ⊢
  go_enter Tryz.func10, Tryz.ntmps10
  go_wp2_with fail
  refine HP.out.mono ?_
  rintro e w1 ⟨rfl, hO1, hb1⟩
  have HO1 := Lib.hid hO1
  clear hb1 hO1
  by_cases hc : c = -1
  · subst hc
    rw [if_pos rfl] at HRD
    have c0 := (HO1.out.blk 0 rfl).cell 0
    rw [un0] at c0
    have hul := (HO1.out.blk 0 rfl).lt
    go_wp2_with fail
    refine (HO1.out.memStore 2 rfl at_ size v HLT.out HVV.out).mono ?_
    rintro e w2 ⟨rfl, hO2, hb2⟩
    go_wp2_with fail
    go_ret
    refine ⟨rfl, ?_, hO2.bel⟩
    rw [HRD.out]
    exact hO2
  · rw [if_neg hc] at HRD
    have hc2 : (c == -1) = false := by simpa using hc
    go_wp2_with fail
    go_ret
    refine ⟨rfl, ?_, HO1.out.bel⟩
    rw [HRD.out]
    exact HO1.out
end
end Go.Proofs.YtophcgbddccpeaaGreat

/- Swap; satp, mode, fence; a new unit. -/
namespace Go.Proofs.YtophcgbddccpeaaGreat
open Go.RowKit

theorem fneq (f : FuncId) (cp : Value) (W : World) : (binOp .neq 177 (.func (.func f) #[] #[cp]) .nilFunc).run Tryz.prog W = .ok (.bool true) W := by kernel_rfl
section
variable (ub m b n k mm : Nat) (u : Un) (S : Nat → List Nat) (T : List (List En)) (os : List Obj) (va : Nat) (size a pick : Int) (W w : World)
theorem un_set (u : Un) (m b : Nat) (on : Bool) (asid : Int) (ppn : Nat) : (((u.cs m b).setIfInBounds 2 (.bool on)).setIfInBounds 3 (.int .i64 asid)).setIfInBounds 4 (.int .u64 (ppn : Int)) = ({ u with on := on, asid := asid, ppn := ppn } : Un).cs m b := rfl
theorem un_mode (u : Un) (m b : Nat) (x y z : Bool) : (((u.cs m b).setIfInBounds 5 (.bool x)).setIfInBounds 6 (.bool y)).setIfInBounds 7 (.bool z) = ({ u with user := x, sum := y, mxr := z } : Un).cs m b := rfl
/-- Is a word a satp? -/
def msatpB (x : Nat) : Bool := x / 1152921504606846976 == 0 || x / 1152921504606846976 == 8
def Un.satp (u : Un) (x : Nat) : Un := if msatpB x then { u with on := x / 1152921504606846976 == 8, asid := ((x / 17592186044416 % 65536 : Nat) : Int), ppn := x % 17592186044416 } else u
theorem Un.Ok.satp {u : Un} {x : Nat} (h : u.Ok) : (u.satp x).Ok := by
  unfold Un.satp
  split
  · exact ⟨by show x % 17592186044416 < _; omega, wf64 (by show (0 : Int) ≤ ((x / 17592186044416 % 65536 : Nat) : Int); omega) (by show ((x / 17592186044416 % 65536 : Nat) : Int) < _; omega)⟩
  · exact h
set_option maxHeartbeats 2000000 in
theorem setsatp_any (x : Nat) (hx : x < 18446744073709551616) (h : Objs W (unO ub m b n k mm u S T os) w) :
    Calls Tryz.prog 24 #[.pointer (some ⟨ub, 0, none⟩), .int .u64 x] w fun e w' => e = .returned (.bool (msatpB x)) ∧ Objs W (unO ub m b n k mm (u.satp x) S T os) w' := by
  have HO := Lib.hid h
  clear h
  cases hs : msatpB x with
  | false =>
    have HN : Hid (x / 1152921504606846976 ≠ 0 ∧ x / 1152921504606846976 ≠ 8) := Lib.hid (by simp only [msatpB, Bool.or_eq_false_iff, beq_eq_false_iff_ne] at hs; exact hs)
    have HU : Hid (u.satp x = u) := Lib.hid (by unfold Un.satp; rw [hs]; rfl)
    have HX := Lib.hid hx
    clear hs hx
    go_enter Tryz.func24, Tryz.ntmps24
    go_wp2_with fail
    refine (getsatp_no x _ HN.out.1 HN.out.2).mono ?_
    rintro e w1 ⟨rfl, hb1⟩
    have ho := (HO.out.step hb1).step (ext_alloc _ (.cells #[.bool false, .int .i64 0, .int .u64 0] 76))
    have HO1 := Lib.hid ho
    clear ho hb1
    go_wp2_with fail
    go_ret
    exact ⟨rfl, by rw [HU.out]; exact HO1.out⟩
  | true =>
    obtain ⟨bb, hbb⟩ : ∃ bb, bb = (x / 1152921504606846976 == 8) := ⟨_, rfl⟩
    have HN : Hid ((bb = false ∧ x / 1152921504606846976 = 0) ∨ (bb = true ∧ x / 1152921504606846976 = 8)) := Lib.hid (by
      simp only [msatpB, Bool.or_eq_true, beq_iff_eq] at hs
      rcases hs with h | h
      · exact .inl ⟨by rw [hbb, h]; rfl, h⟩
      · exact .inr ⟨by rw [hbb, h]; rfl, h⟩)
    have HU : Hid (u.satp x = { u with on := bb, asid := ((x / 17592186044416 % 65536 : Nat) : Int), ppn := x % 17592186044416 }) := Lib.hid (by unfold Un.satp; rw [hs, if_pos rfl, hbb])
    have HX := Lib.hid hx
    have HG := Lib.hid (fun W => getsatp_yes x bb W HX.out HN.out)
    clear hs hx hbb HN
    generalize x / 17592186044416 % 65536 = asid at *
    generalize x % 17592186044416 = ppn at *
    go_enter Tryz.func24, Tryz.ntmps24
    go_wp2_with fail
    refine (HG.out _).mono ?_
    rintro e w1 ⟨rfl, hb1⟩
    have ho := (HO.out.step hb1).step (ext_alloc _ (.cells #[.bool bb, .int .i64 (asid : Int), .int .u64 (ppn : Int)] 76))
    have HO1 := Lib.hid ho
    have hbk := ho.blk 0 rfl
    have d2 := hbk.cell 2
    have d3 := hbk.cell 3
    have d4 := hbk.cell 4
    rw [un2] at d2
    rw [un3] at d3
    rw [un4] at d4
    have hul := hbk.lt
    have hfr := fun i => Blk.frozen hbk i
    clear ho hb1 hbk
    go_wp2_with fail
    go_ret
    refine ⟨rfl, ?_⟩
    rw [HU.out]
    exact ((HO1.out.set_ 0 rfl 2 (.bool bb)).set_ 0 rfl 3 (.int .i64 (asid : Int))).set_ 0 rfl 4 (.int .u64 (ppn : Int))
theorem setmode_any (x y z : Bool) (h : Objs W (unO ub m b n k mm u S T os) w) :
    Calls Tryz.prog 27 #[.pointer (some ⟨ub, 0, none⟩), .agg #[.bool x, .bool y, .bool z]] w fun e w' => e = .returned (.tuple #[]) ∧ Objs W (unO ub m b n k mm { u with user := x, sum := y, mxr := z } S T os) w' := by
  have HO := Lib.hid (h.step (ext_alloc _ (.cells #[.bool x, .bool y, .bool z] 79)))
  have hbk := HO.out.blk 0 rfl
  have d5 := hbk.cell 5
  have d6 := hbk.cell 6
  have d7 := hbk.cell 7
  change _ = some (Value.bool u.user) at d5
  change _ = some (Value.bool u.sum) at d6
  change _ = some (Value.bool u.mxr) at d7
  have hul := hbk.lt
  have hfr := fun i => Blk.frozen hbk i
  clear h hbk
  go_enter Tryz.func27, Tryz.ntmps27
  go_wp2_with fail
  refine bodyPost_end (results_none rfl _ _ _) rfl ?_
  refine ⟨rfl, ?_⟩
  exact ((HO.out.set_ 0 rfl 5 (.bool x)).set_ 0 rfl 6 (.bool y)).set_ 0 rfl 7 (.bool z)
theorem mfence_any (vo : Option Nat) (ao : Option Int) (V A : Value) (hv : ∀ va, vo = some va → va < 18446744073709551616) (hV : OneU w vo V) (hA : OneI w ao A) (h : Objs W (unO ub m b n k mm u S T os) w) :
    Calls Tryz.prog 31 #[.pointer (some ⟨ub, 0, none⟩), V, A] w fun e w' => e = .returned (.int .i64 (fenceN T vo ao : Nat)) ∧ Objs W (unO ub m b n k mm u S (fenceS T vo ao) os) w' := by
  have HO := Lib.hid h
  have HC := Lib.hid (h.bufFence 1 rfl vo ao V A hv hV hA)
  have hbk := h.blk 0 rfl
  have d1 := hbk.cell 1
  rw [un1] at d1
  have hul := hbk.lt
  clear h hbk hV hA
  go_enter Tryz.func31, Tryz.ntmps31
  go_wp2_with fail
  refine HC.out.mono ?_
  rintro e w1 ⟨rfl, hO1, hb1⟩
  go_wp2_with fail
  go_ret
  exact ⟨rfl, hO1⟩
def un0U : Un := ⟨false, 0, 0, false, false, false⟩
theorem mnew_any : Calls Tryz.prog 20 #[.pointer (some ⟨m, 0, none⟩), .pointer (some ⟨b, 0, none⟩)] w fun e w' => e = .returned (.pointer (some ⟨w.heap.size, 0, none⟩)) ∧ w.alloc (.cells (un0U.cs m b) 89) = w' := by
  go_enter Tryz.func20, Tryz.ntmps20
  go_wp2_with fail
  go_ret
  exact ⟨rfl, rfl⟩
theorem mnew_nil (v : Value) : Calls Tryz.prog 20 #[.pointer none, .pointer (some ⟨b, 0, none⟩)] w fun e w' => e = .returned (.pointer none) ∧ w = w' := by
  go_enter Tryz.func20, Tryz.ntmps20
  go_wp2_with fail
  go_ret
  exact ⟨rfl, rfl⟩
end
end Go.Proofs.YtophcgbddccpeaaGreat

/- The reference's Load and Store; objects gathered. -/
namespace Go.Proofs.YtophcgbddccpeaaGreat
open Go.RowKit

section
variable (xb rm rb n k mm : Nat) (u : Un) (S : Nat → List Nat) (T : List (List En)) (os : List Obj) (va : Nat) (size a pick : Int) (W w : World)
end
/-- Some objects, in another order. -/
theorem Objs.pick {W w : World} {os : List Obj} (h : Objs W os w) (f : List Nat) (hn : f.Nodup) (hl : ∀ i ∈ f, i < os.length) : Objs W (f.map (fun i => os.getD i nilO)) w := by
  refine h.sub (fun i => f.getD i 0) (fun i O ho => ?_) (fun i j hi hj e => ?_)
  · rw [List.getElem?_map] at ho
    cases hf : f[i]? with
    | none => rw [hf] at ho; simp at ho
    | some q =>
      rw [hf] at ho
      simp only [Option.map_some, Option.some.injEq] at ho
      have hq := hl q (List.mem_of_getElem? hf)
      rw [List.getD_eq_getElem?_getD (l := f), hf, Option.getD_some, ← ho, List.getD_eq_getElem?_getD, List.getElem?_eq_getElem hq, Option.getD_some]
  · rw [List.length_map] at hi hj
    rw [List.getD_eq_getElem?_getD, List.getD_eq_getElem?_getD, List.getElem?_eq_getElem hi, List.getElem?_eq_getElem hj, Option.getD_some, Option.getD_some] at e
    exact (List.getElem_inj hn).1 e
theorem list_empty0 (n m : Nat) : listT 0 (emptyT n m) = [] := by
  have : ∀ l ∈ listT 0 (emptyT n m), False := fun x hx => by
    obtain ⟨s, y, _, _, h3⟩ := mem_listT hx
    cases hT : ((emptyT n m).getD s [])[y]? with
    | none => rw [hT] at h3; simp at h3
    | some e =>
      rw [hT] at h3
      obtain ⟨_, _, hf, _⟩ := ent_key (e := e) (by simpa using h3)
      have hm := List.mem_of_getElem? hT
      by_cases hs : s < n
      · unfold emptyT at hm
        rw [List.getD_eq_getElem?_getD, List.getElem?_replicate, if_pos hs] at hm
        have := List.eq_of_mem_replicate (by simpa using hm)
        subst this
        simp [en0] at hf
      · unfold emptyT at hm
        rw [List.getD_eq_getElem?_getD, List.getElem?_replicate, if_neg hs] at hm
        simp at hm
  exact List.eq_nil_iff_forall_not_mem.2 this
theorem TG.empty {n m : Nat} (h : rightS n m = true) : TG (emptyT n m) n m := ⟨TOk.empty h, WfT.empty n m⟩
/-- A new buffer. -/
theorem Objs.bufNew {W w : World} {os : List Obj} (h : Objs W os w) (n m : Nat) (hr : rightS n m = true) :
    Calls Tryz.prog 19 #[.int .i64 (n : Int), .int .i64 (m : Int)] w fun e w' => e = .returned (.tuple #[.pointer (some ⟨w.heap.size, 0, none⟩), .int .i64 0]) ∧ Objs W (bufO w.heap.size n m (emptyT n m) :: os) w' ∧ Ext w w' := by
  refine (tlb_new_yes n m w hr).mono ?_
  rintro e w' ⟨rfl, hn⟩
  have hk := TG.empty hr
  obtain ⟨gs, Gb, h1, h2, h3⟩ := new_buf (Nat.le_refl _) hk.1.n0 hn
  refine ⟨rfl, h.add (F := fun b => bufF w.heap.size gs Gb n b) h3 ⟨hk, ⟨gs, Gb, h1, fun b hb => hb⟩, fun b hb => ?_⟩ h2, h3⟩
  exact h1.lt b (by rw [hk.1.len]; exact hb)
end Go.Proofs.YtophcgbddccpeaaGreat

/- A space in memory: its objects; tables, stock and memory as one. -/
namespace Go.Proofs.YtophcgbddccpeaaGreat
open Go.RowKit Go.Maps

section
variable {W w w' : World} {os xs bs : List Obj}
/-- What stands behind is taken ahead. -/
theorem Objs.rot (h : Objs W (xs ++ bs) w) : Objs W (bs ++ xs) w := by
  refine h.sub (fun i => if i < bs.length then i + xs.length else i - bs.length) (fun i O ho => ?_) (fun i j hi hj e => ?_)
  · by_cases hi : i < bs.length
    · rw [List.getElem?_append_left hi] at ho
      rw [if_pos hi, List.getElem?_append_right (by omega), Nat.add_sub_cancel]
      exact ho
    · have hl := (List.getElem?_eq_some_iff.1 ho).1
      rw [List.length_append] at hl
      rw [List.getElem?_append_right (by omega)] at ho
      rw [if_neg hi, List.getElem?_append_left (by omega)]
      exact ho
  · rw [List.length_append] at hi hj
    split at e <;> split at e <;> omega
end
section
variable {W w : World} {os xs : List Obj}
/-- The first ones stand in another order, or are left out. -/
theorem Objs.permA (f : List Nat) (h : Objs W (xs ++ os) w) (hn : f.Nodup) (hl : ∀ i ∈ f, i < xs.length) : Objs W (f.map (fun i => xs.getD i nilO) ++ os) w := by
  refine h.sub (fun i => if i < f.length then f.getD i 0 else i - f.length + xs.length) (fun i O ho => ?_) (fun i j hi hj e => ?_)
  · by_cases hi : i < f.length
    · rw [if_pos hi]
      rw [List.getElem?_append_left (by simpa using hi), List.getElem?_map] at ho
      have hf : f[i]? = some f[i] := List.getElem?_eq_getElem hi
      rw [hf] at ho
      simp only [Option.map_some, Option.some.injEq] at ho
      have hq := hl f[i] (List.getElem_mem hi)
      rw [List.getD_eq_getElem?_getD (l := f), hf, Option.getD_some, List.getElem?_append_left hq, ← ho, List.getD_eq_getElem?_getD, List.getElem?_eq_getElem hq, Option.getD_some]
    · rw [if_neg hi]
      rw [List.getElem?_append_right (by simpa using hi), List.length_map] at ho
      rw [List.getElem?_append_right (by omega), Nat.add_sub_cancel]
      exact ho
  · rw [List.length_append, List.length_map] at hi hj
    have hb : ∀ i, i < f.length → f.getD i 0 < xs.length := fun i hi => by
      rw [List.getD_eq_getElem?_getD, List.getElem?_eq_getElem hi, Option.getD_some]
      exact hl _ (List.getElem_mem hi)
    by_cases h1 : i < f.length <;> by_cases h2 : j < f.length
    · rw [if_pos h1, if_pos h2, List.getD_eq_getElem?_getD, List.getD_eq_getElem?_getD, List.getElem?_eq_getElem h1, List.getElem?_eq_getElem h2, Option.getD_some, Option.getD_some] at e
      exact (List.getElem_inj hn).1 e
    · rw [if_pos h1, if_neg h2] at e
      have := hb i h1
      omega
    · rw [if_neg h1, if_pos h2] at e
      have := hb j h2
      omega
    · rw [if_neg h1, if_neg h2] at e
      omega
end
/-- A stock of which k frames have been taken. -/
def stkO (c : TC) (k : Nat) : Obj where
  At w F := ∃ s, StockAt w c.sb F s ∧ StkOK c k s
  keeps := fun ⟨s, h1, h2⟩ k hd => ⟨s, h1.keeps k hd, h2⟩
  lt := fun ⟨_, h1, _⟩ hb => h1.bound hb
def tabC (c : TC) (u : Nat) : Array Value := #[.pointer (some ⟨c.gm, 0, none⟩), .pointer (some ⟨c.sb, 0, none⟩), .int .i64 (c.root : Int), .int .i64 (u : Int)]
/-- Tables, with their memory and their stock. -/
def tabsO (c : TC) (σ : TS) : Obj where
  At w F := ∃ Fm Fs, TabAt w c σ Fm Fs ∧ ∀ b, F b ↔ TabF c Fm Fs b
  keeps := fun ⟨Fm, Fs, h, hF⟩ k hd => ⟨Fm, Fs, h.keeps k (fun b hb => hd b ((hF b).2 hb)), hF⟩
  lt := fun ⟨_, _, h, hF⟩ hb => h.lt ((hF _).1 hb)
section
variable {W w : World} {os : List Obj} {c : TC} {σ σ' : TS}
theorem Objs.tabs (h : Objs W (memO c.gm c.n σ.S :: blkO c.tb 117 (tabC c σ.u) :: stkO c σ.k :: os) w) (hu : σ.u ≤ σ.k) (hr : c.root < 1048576) : Objs W (tabsO c σ :: os) w := by
  refine (h.join.join).conv fun F hF => ?_
  obtain ⟨Fa, Fs, ⟨Fm, Ft, hm, ht, hd1, hF1⟩, hs, hd2, hF2⟩ := hF
  have htb := (ht.2 c.tb).2 rfl
  refine ⟨Fm, Fs, ⟨ht.1, hm.1, hs, fun b hb => hd2 b ((hF1 b).2 (.inl hb)), fun hb => hd1 _ hb htb, hd2 _ ((hF1 _).2 (.inr htb)), hm.2, hu, hr⟩, fun b => ?_⟩
  rw [hF2, hF1]
  unfold TabF
  rw [ht.2 b]
  constructor
  · rintro ((h | h) | h)
    · exact .inl h
    · exact .inr (.inr h)
    · exact .inr (.inl h)
  · rintro (h | h | h)
    · exact .inl (.inl h)
    · exact .inr h
    · exact .inl (.inr h)
theorem Objs.untabs (h : Objs W (tabsO c σ :: os) w) : Objs W (memO c.gm c.n σ.S :: blkO c.tb 117 (tabC c σ.u) :: stkO c σ.k :: os) w ∧ σ.u ≤ σ.k ∧ c.root < 1048576 := by
  obtain ⟨F0, Fm0, Fs0, hT0, _⟩ := h.get 0 _ rfl
  refine ⟨Objs.split (Objs.split (h.conv fun F hF => ?_)), hT0.ul, hT0.rl⟩
  obtain ⟨Fm, Fs, hT, hF⟩ := hF
  refine ⟨fun b => Fm b ∨ b = c.tb, Fs, ⟨Fm, fun b => b = c.tb, ⟨hT.mem, hT.ml⟩, ⟨hT.hd, fun _ => Iff.rfl⟩, fun b hb e => hT.tm (e ▸ hb), fun _ => Iff.rfl⟩, hT.stk, fun b hb => ?_, fun b => ?_⟩
  · rcases hb with hb | rfl
    · exact hT.dis b hb
    · exact hT.ts
  · rw [hF]
    unfold TabF
    constructor
    · rintro (h | h | h)
      · exact .inl (.inl h)
      · exact .inr h
      · exact .inl (.inr h)
    · rintro ((h | h) | h)
      · exact .inl h
      · exact .inr (.inr h)
      · exact .inr (.inl h)
theorem Objs.tabTurn {f : FuncId} {args : Array Value} {R : Ending → Prop} (h : Objs W (tabsO c σ :: os) w) (hc : ∀ Fm Fs, TabAt w c σ Fm Fs → Calls Tryz.prog f args w fun e w' => R e ∧ TabTo w c σ' Fm Fs w') :
    Calls Tryz.prog f args w fun e w' => R e ∧ Objs W (tabsO c σ' :: os) w' ∧ Below W.heap.size w w' := by
  refine h.turn (P := Tryz.prog) (f := f) (args := args) (R := R) 0 (tabsO c σ) (tabsO c σ') rfl (fun F hF => ?_)
  obtain ⟨Fm, Fs, hT, hF⟩ := hF
  refine (hc Fm Fs hT).mono ?_
  rintro e w' ⟨h1, Fm', Fs', h2, h3, h4, k⟩
  refine ⟨h1, TabF c Fm' Fs', ⟨Fm', Fs', h2, fun _ => Iff.rfl⟩, fun b hb => ?_, k.mono fun b hb => (hF b).2 hb⟩
  rcases hb with hb | hb | hb
  · exact (h3 b hb).imp (fun h => (hF b).2 (.inl h)) id
  · exact (h4 b hb).imp (fun h => (hF b).2 (.inr (.inl h))) id
  · exact .inl ((hF b).2 (.inr (.inr hb)))
end
/-- Where a space lies, and what of it stays. -/
structure SpL where
  sp : Nat
  ub : Nat
  b : Nat
  gm : Nat
  tb : Nat
  sb : Nat
  m1 : Nat
  m2 : Nat
  k : Nat
  m : Nat
  n : Nat
  nc : Nat
  np : Nat
  ns : Nat
  root : Nat
  base : Nat
  vc : Value
  vo : Value
  cf : List Nat
  ow : List Nat
  un : Un
/-- What of a space changes. -/
structure SpS where
  S : Nat → List Nat
  T : List (List En)
  k : Nat
  u : Nat
  ms : Nat
  sh : Nat → Option Int
  mr : Nat
  ri : Nat → Option Int
def SpL.tc (L : SpL) : TC := ⟨L.tb, L.gm, L.sb, L.n, 0, L.n, L.root⟩
def SpL.cs (L : SpL) : Array Value := #[.int .i64 (L.nc : Int), .int .i64 (L.np : Int), .int .i64 (L.ns : Int), .pointer (some ⟨L.gm, 0, none⟩), .pointer (some ⟨L.sb, 0, none⟩), .pointer (some ⟨L.tb, 0, none⟩), .pointer (some ⟨L.b, 0, none⟩), .pointer (some ⟨L.ub, 0, none⟩), L.vc, L.vo, .map (some L.m1), .map (some L.m2)]
def SpS.ts (s : SpS) : TS := ⟨s.S, s.k, s.u⟩
def nv (n : Nat) : Value := .int .i64 (n : Int)
def spR (L : SpL) (s : SpS) (os : List Obj) : List Obj :=
  rowO L.base 3 1 L.cf.length L.vc (L.cf.map nv) :: rowO L.base 3 1 L.ow.length L.vo (L.ow.map nv) :: mapO 3 L.m1 s.ms s.sh :: mapO 33 L.m2 s.mr s.ri :: os
def spO (L : SpL) (s : SpS) (os : List Obj) : List Obj :=
  blkO L.sp 65 L.cs :: blkO L.ub 89 (L.un.cs L.gm L.b) :: bufO L.b L.k L.m s.T :: memO L.gm L.n s.S :: blkO L.tb 117 (tabC L.tc s.u) :: stkO L.tc s.k :: spR L s os
section
variable {W w : World} {os : List Obj} {L : SpL} {s : SpS}
/-- The tables' call. -/
theorem Objs.spTab {f : FuncId} {args : Array Value} {R : Ending → Prop} {σ' : TS} (h : Objs W (spO L s os) w) (hu : s.u ≤ s.k) (hr : L.root < 1048576) (hc : ∀ Fm Fs, TabAt w L.tc s.ts Fm Fs → Calls Tryz.prog f args w fun e w' => R e ∧ TabTo w L.tc σ' Fm Fs w') :
    Calls Tryz.prog f args w fun e w' => R e ∧ Objs W (spO L { s with S := σ'.S, k := σ'.k, u := σ'.u } os) w' ∧ Below W.heap.size w w' ∧ σ'.u ≤ σ'.k := by
  have h1 : Objs W (memO L.gm L.n s.S :: blkO L.tb 117 (tabC L.tc s.u) :: stkO L.tc s.k :: (spR L s os ++ [blkO L.sp 65 L.cs, blkO L.ub 89 (L.un.cs L.gm L.b), bufO L.b L.k L.m s.T])) w :=
    Objs.rot (xs := [blkO L.sp 65 L.cs, blkO L.ub 89 (L.un.cs L.gm L.b), bufO L.b L.k L.m s.T]) (bs := memO L.gm L.n s.S :: blkO L.tb 117 (tabC L.tc s.u) :: stkO L.tc s.k :: spR L s os) h
  refine ((Objs.tabs (c := L.tc) (σ := s.ts) h1 hu hr).tabTurn hc).mono ?_
  rintro e w' ⟨h2, h3, h4⟩
  obtain ⟨h5, h6, _⟩ := h3.untabs
  exact ⟨h2, Objs.rot (xs := memO L.gm L.n σ'.S :: blkO L.tb 117 (tabC L.tc σ'.u) :: stkO L.tc σ'.k :: spR L s os) (bs := [blkO L.sp 65 L.cs, blkO L.ub 89 (L.un.cs L.gm L.b), bufO L.b L.k L.m s.T]) h5, h4, h6⟩
theorem Objs.spTabAt (h : Objs W (spO L s os) w) (hu : s.u ≤ s.k) (hr : L.root < 1048576) : ∃ Fm Fs, TabAt w L.tc s.ts Fm Fs := by
  have h1 : Objs W (memO L.gm L.n s.S :: blkO L.tb 117 (tabC L.tc s.u) :: stkO L.tc s.k :: (spR L s os ++ [blkO L.sp 65 L.cs, blkO L.ub 89 (L.un.cs L.gm L.b), bufO L.b L.k L.m s.T])) w :=
    Objs.rot (xs := [blkO L.sp 65 L.cs, blkO L.ub 89 (L.un.cs L.gm L.b), bufO L.b L.k L.m s.T]) (bs := memO L.gm L.n s.S :: blkO L.tb 117 (tabC L.tc s.u) :: stkO L.tc s.k :: spR L s os) h
  obtain ⟨F, Fm, Fs, hT, _⟩ := (Objs.tabs (c := L.tc) (σ := s.ts) h1 hu hr).get 0 _ rfl
  exact ⟨Fm, Fs, hT⟩
end
end Go.Proofs.YtophcgbddccpeaaGreat

/- Small functions of a space. -/
namespace Go.Proofs.YtophcgbddccpeaaGreat
open Go.RowKit Go.Maps

/-- The first address of a shared page. -/
def vaN (p : Nat) : Nat := 1073741824 + 4096 * p
theorem va_any (p : Nat) (hp : p < 65536) (w : World) :
    Calls Tryz.prog 32 #[.int .i64 (p : Int)] w fun e w' => e = .returned (.int .u64 (vaN p : Int)) ∧ w = w' := by
  have e1 : IntKind.u64.wrap (p : Int) = (p : Int) := by rw [IntKind.wrap_u64]; omega
  have e2 : IntKind.u64.wrap ((p : Int) * 4096) = ((4096 * p : Nat) : Int) := by rw [IntKind.wrap_u64]; omega
  have e3 : IntKind.u64.wrap (1073741824 + ((4096 * p : Nat) : Int)) = (vaN p : Int) := by rw [IntKind.wrap_u64]; unfold vaN; omega
  clear hp
  generalize 4096 * p = q at *
  generalize vaN p = r at *
  go_enter Tryz.func32, Tryz.ntmps32
  go_wp2_with fail
  go_ret
  exact ⟨rfl, rfl⟩
/-- The entry of a frame with flags. -/
def entF (v r w x u g a d : Bool) (f : Nat) : Pte := ⟨v, r, w, x, u, g, a, d, 0, (f : Int)⟩
set_option maxHeartbeats 1000000 in
theorem sentry_any (s : ByteArray) (v r wr x u g a d : Bool) (f : Nat) (w : World) (hs : s.size = 8) (hf : f < 1048576)
    (hfl : flagsV s = .tuple #[.agg #[.bool v, .bool r, .bool wr, .bool x, .bool u, .bool g, .bool a, .bool d, .int .i64 0, .int .u64 0], .bool true]) :
    Calls Tryz.prog 44 #[.string s, .int .i64 (f : Int)] w fun e w' => e = .returned (.agg (entF v r wr x u g a d f).cs) ∧ Below w.heap.size w w' := by
  have e1 : IntKind.u64.wrap (f : Int) = (f : Int) := by rw [IntKind.wrap_u64]; omega
  have HC := Lib.hid (fun W => perm_flags_any s W hs)
  have HB : Hid (Below w.heap.size w (w.alloc (.cells #[.bool false, .bool false, .bool false, .bool false, .bool false, .bool false, .bool false, .bool false, .int .i64 0, .int .u64 0] 96))) := Lib.hid ((Below.refl _ w).alloc (Nat.le_refl _) _)
  have HL : Hid (Blk (w.alloc (.cells #[.bool false, .bool false, .bool false, .bool false, .bool false, .bool false, .bool false, .bool false, .int .i64 0, .int .u64 0] 96)) w.heap.size 96 #[.bool false, .bool false, .bool false, .bool false, .bool false, .bool false, .bool false, .bool false, .int .i64 0, .int .u64 0]) := Lib.hid (Blkf.new_at _ _ _ _ rfl)
  clear hs hf
  go_enter Tryz.func44, Tryz.ntmps44
  go_wp2_with fail
  refine (HC.out _).mono ?_
  rintro e w1 ⟨rfl, hb⟩
  rw [hfl]
  have h1 : Blk w1 w.heap.size 96 pte0.cs := HL.out.below hb (by simp)
  have hb1 := HB.out.trans (hb.mono (by simp))
  obtain ⟨rb, hrb⟩ : ∃ q, q = w.heap.size := ⟨_, rfl⟩
  obtain ⟨cb, hcb⟩ : ∃ q, q = w1.heap.size := ⟨_, rfl⟩
  have HN : Hid (Blk (w1.alloc (.cells #[.bool v, .bool r, .bool wr, .bool x, .bool u, .bool g, .bool a, .bool d, .int .i64 0, .int .u64 (f : Int)] 96)) cb 96 (entF v r wr x u g a d f).cs) := Lib.hid (Blkf.new_at _ _ _ _ hcb)
  have HB2 : Hid (Below w.heap.size w (w1.alloc (.cells #[.bool v, .bool r, .bool wr, .bool x, .bool u, .bool g, .bool a, .bool d, .int .i64 0, .int .u64 (f : Int)] 96))) := Lib.hid (hb1.alloc hb1.size _)
  have HL2 : Hid (Blk (w1.alloc (.cells #[.bool v, .bool r, .bool wr, .bool x, .bool u, .bool g, .bool a, .bool d, .int .i64 0, .int .u64 (f : Int)] 96)) rb 96 pte0.cs) := Lib.hid (by rw [hrb]; exact h1.alloc _)
  have HRB := Lib.hid hrb
  clear hb h1 hb1 HB HL
  rw [← hrb]
  clear hrb
  go_upto_region 3 with fail
  rw [← hcb]
  clear hcb
  generalize w1.alloc (.cells #[.bool v, .bool r, .bool wr, .bool x, .bool u, .bool g, .bool a, .bool d, .int .i64 0, .int .u64 (f : Int)] 96) = w2 at *
  go_wp2_with (first | ((with_reducible refine wl_load 96 (.tmp 5) rfl ?_ cb 0 (entF v r wr x u g a d f).cs ?_ HN.out.range ?_ ?_); exact rfl; exact rfl; exact prow _) | ((with_reducible refine wl_store 96 (.tmp 4) (.tmp 15) rfl ?_ rb 96 pte0.cs (entF v r wr x u g a d f).cs ?_ ?_ HL2.out ?_ ?_ ?_ ?_); exact rfl; exact rfl; exact rfl; exact rfl; exact prow _; exact pcs_one _))
  have HB3 := Lib.hid (Blkf.setRow HL2.out (entF v r wr x u g a d f).cs)
  have K3 : Hid (Keeps (fun b => b = rb) w2 (w2.setRow rb (entF v r wr x u g a d f).cs)) := Lib.hid (Keeps.setRow (F := fun b => b = rb) (Keeps.refl _ _) (.inl rfl) _)
  refine bodyPost_ret (v := .agg (entF v r wr x u g a d f).cs) (res_cell Tryz.results44 _ _ rb 96 _ rfl HB3.out (prow _)) rfl ?_
  exact ⟨rfl, HB2.out.trans (K3.out.below (fun i e => by rw [e, HRB.out]; exact Nat.le_refl _) HB2.out.size)⟩
end Go.Proofs.YtophcgbddccpeaaGreat

/- A space's look-ups: there, Unit, Right, Used; a frame is taken. -/
namespace Go.Proofs.YtophcgbddccpeaaGreat
open Go.RowKit Go.Maps

theorem zeroI (w : World) : (zeroValue 3).run Tryz.prog w = .ok (.int .i64 0) w := by kernel_rfl
theorem zeroR (w : World) : (zeroValue 33).run Tryz.prog w = .ok (.int .i64 0) w := by kernel_rfl
theorem wf_page {p : Nat} (h : p ≤ 65536) : (Lit.int .i64 (p : Int)).wf = true := fwf (by omega)
section
variable {W w : World} {os : List Obj} {L : SpL} {s : SpS}
theorem sthere_any (p : Int) (h : Objs W (spO L s os) w) :
    Calls Tryz.prog 28 #[.pointer (some ⟨L.sp, 0, none⟩), .int .i64 p] w fun e w' => e = .returned (.bool (decide (0 ≤ p) && decide (p < (L.ns : Int)))) ∧ w = w' := by
  have hb := h.blk 0 rfl
  have c2 : w.cell? ⟨L.sp, 2, none⟩ = some (.int .i64 (L.ns : Int)) := hb.cell 2
  have hl := hb.lt
  clear h hb
  cases e1 : decide (0 ≤ p) with
  | false =>
    go_enter Tryz.func28, Tryz.ntmps28
    go_wp2_with fail
    go_ret
    exact ⟨rfl, rfl⟩
  | true =>
    go_enter Tryz.func28, Tryz.ntmps28
    go_wp2_with fail
    go_ret
    exact ⟨rfl, rfl⟩
theorem unit_any (h : Objs W (spO L s os) w) :
    Calls Tryz.prog 9 #[.pointer (some ⟨L.sp, 0, none⟩)] w fun e w' => e = .returned (.pointer (some ⟨L.ub, 0, none⟩)) ∧ w = w' := by
  have hb := h.blk 0 rfl
  have c2 : w.cell? ⟨L.sp, 7, none⟩ = some (.pointer (some ⟨L.ub, 0, none⟩)) := hb.cell 7
  have hl := hb.lt
  clear h hb
  go_enter Tryz.func9, Tryz.ntmps9
  go_wp2_with fail
  go_ret
  exact ⟨rfl, rfl⟩
/-- The right to a page. -/
def SpS.rt (s : SpS) (p : Nat) : Int := (s.ri p).getD 0
theorem sright_any (p : Nat) (hp : p ≤ 65536) (h : Objs W (spO L s os) w) :
    Calls Tryz.prog 8 #[.pointer (some ⟨L.sp, 0, none⟩), .int .i64 (p : Int)] w fun e w' => e = .returned (.int .i64 (s.rt p)) ∧ w = w' := by
  have hb := h.blk 0 rfl
  have c2 : w.cell? ⟨L.sp, 11, none⟩ = some (.map (some L.m2)) := hb.cell 11
  have hl := hb.lt
  have hm := (h.imap 9 rfl).look Tryz.underlying33 Tryz.underlying60 (zeroR w) (wf_page hp)
  change (Instr.lookup 60 (.map (some L.m2)) (.int .i64 (p : Int)) false).run Tryz.prog w = .ok (.int .i64 (s.rt p)) w at hm
  clear h hb hp
  generalize s.rt p = r at *
  go_enter Tryz.func8, Tryz.ntmps8
  go_wp2_with fail
  go_ret
  exact ⟨rfl, rfl⟩
/-- A frame is taken of the stock. -/
theorem Objs.spTake (h : Objs W (spO L s os) w) (hk : s.k < L.n) :
    Calls Tryz.prog 42 #[.pointer (some ⟨L.sb, 0, none⟩)] w fun e w' => e = .returned (.tuple #[.int .i64 (s.k : Int), .int .i64 0]) ∧ Objs W (spO L { s with k := s.k + 1 } os) w' ∧ Below W.heap.size w w' := by
  refine h.turn (P := Tryz.prog) (f := 42) (args := #[.pointer (some ⟨L.sb, 0, none⟩)]) (R := fun e => e = .returned (.tuple #[.int .i64 (s.k : Int), .int .i64 0])) 5 (stkO L.tc s.k) (stkO L.tc (s.k + 1)) rfl (fun F hF => ?_)
  obtain ⟨s0, h1, h2⟩ := hF
  have hbig := h2.big
  have hend := h2.end_
  have hlen := h2.len
  have hall := h2.all
  have hn : L.tc.first = 0 := rfl
  have hN : L.tc.N = L.n := rfl
  have hn2 : L.tc.n = L.n := rfl
  rw [hn, hN] at hbig hend
  rcases h2.at_ with ⟨g1, g2, g3⟩ | ⟨g1, g2, g3, g4⟩
  · rw [hn] at g2
    have hnext : s0.next = (s.k : Int) := by rw [g2]; omega
    refine (take_next L.sb F s0 w h1 g1 (by omega) (by omega) (by omega) (fun hm => by have := (hall _ hm).2; rw [hn] at this; omega) (by omega)).mono ?_
    rintro e w' ⟨rfl, k1, k2⟩
    rw [hnext]
    refine ⟨rfl, F, ⟨_, k1, stk_next h2 (by rw [hn]; exact g2) g1 (by rw [hN]; exact hk)⟩, fun b hb => .inl hb, k2⟩
  · rw [hn, hn2] at g3
    omega
theorem Objs.memSetPage {g n : Nat} {S : Nat → List Nat} (h : Objs W os w) (i : Nat) (hi : os[i]? = some (memO g n S)) (k : Nat) (hk : k < n) (A : Option Addr) (l : List Nat) (c : Nat) (hA : Bts w A l) (hl : l.length ≤ 4096) :
    Calls Tryz.prog 46 #[.pointer (some ⟨g, 0, none⟩), .int .i64 (k : Int), .slice A l.length c] w fun e w' => e = .returned (.int .i64 0) ∧ Objs W (os.set i (memO g n (updS S k (headL l)))) w' ∧ Below W.heap.size w w' := by
  refine h.turn (P := Tryz.prog) (f := 46) (args := #[.pointer (some ⟨g, 0, none⟩), .int .i64 (k : Int), .slice A l.length c]) (R := fun e => e = .returned (.int .i64 0)) i (memO g n S) (memO g n (updS S k (headL l))) hi (fun F hF => ?_)
  refine (SetPage_any g n k A l c F S w hF.1 hk hA hl).mono ?_
  rintro e w' ⟨rfl, F', h1, h2, h3⟩
  obtain ⟨F2, k1, k2, k3⟩ := h1.fits
  exact ⟨rfl, F2, ⟨k1, k3⟩, fun b hb => h2 b (k2 b hb), h3⟩
theorem Bts.nil (w : World) : Bts w none [] := by
  unfold Bts
  simp
/-- A shared page has a frame. -/
def frS (s : SpS) (p : Nat) : SpS := { s with S := updS s.S s.k zeroL, k := s.k + 1, ms := s.ms + 1, sh := putF s.sh p (s.k : Int) }
theorem frame_has (p : Nat) (f : Int) (hp : p ≤ 65536) (hf : s.sh p = some f) (h : Objs W (spO L s os) w) :
    Calls Tryz.prog 29 #[.pointer (some ⟨L.sp, 0, none⟩), .int .i64 (p : Int)] w fun e w' => e = .returned (.tuple #[.int .i64 f, .int .i64 0]) ∧ w = w' := by
  have hb := h.blk 0 rfl
  have c2 : w.cell? ⟨L.sp, 10, none⟩ = some (.map (some L.m1)) := hb.cell 10
  have hl := hb.lt
  have hm := (h.imap 8 rfl).look2 Tryz.underlying3 Tryz.underlying59 (zeroI w) (wf_page hp)
  rw [hf] at hm
  change (Instr.lookup 59 (.map (some L.m1)) (.int .i64 (p : Int)) true).run Tryz.prog w = .ok (.tuple #[.int .i64 f, .bool true]) w at hm
  clear h hb hp hf
  go_enter Tryz.func29, Tryz.ntmps29
  go_wp2_with fail
  go_ret2
  exact ⟨rfl, rfl⟩
set_option maxHeartbeats 1000000 in
theorem frame_new (p : Nat) (hp : p ≤ 65536) (hf : s.sh p = none) (hk : s.k < L.n) (hn : L.n ≤ 1048576) (hms : s.ms ≤ 65536) (h : Objs W (spO L s os) w) :
    Calls Tryz.prog 29 #[.pointer (some ⟨L.sp, 0, none⟩), .int .i64 (p : Int)] w fun e w' => e = .returned (.tuple #[.int .i64 (s.k : Int), .int .i64 0]) ∧ Objs W (spO L (frS s p) os) w' ∧ Below W.heap.size w w' := by
  have hb := h.blk 0 rfl
  have c2 : w.cell? ⟨L.sp, 10, none⟩ = some (.map (some L.m1)) := hb.cell 10
  have c4 : w.cell? ⟨L.sp, 4, none⟩ = some (.pointer (some ⟨L.sb, 0, none⟩)) := hb.cell 4
  have hl := hb.lt
  have hm := (h.imap 8 rfl).look2 Tryz.underlying3 Tryz.underlying59 (zeroI w) (wf_page hp)
  rw [hf] at hm
  change (Instr.lookup 59 (.map (some L.m1)) (.int .i64 (p : Int)) true).run Tryz.prog w = .ok (.tuple #[.int .i64 0, .bool false]) w at hm
  have HT := Lib.hid (h.spTake hk)
  have HP := Lib.hid (wf_page hp)
  have HK := Lib.hid hk
  have HN := Lib.hid hn
  have HM := Lib.hid hms
  have HF := Lib.hid hf
  clear h hb hp hf hk hn hms
  go_enter Tryz.func29, Tryz.ntmps29
  go_wp2_with fail
  refine HT.out.mono ?_
  rintro e w1 ⟨rfl, h1, k1⟩
  have H1 := Lib.hid h1
  have K1 := Lib.hid k1
  have hb1 := h1.blk 0 rfl
  have d3 : w1.cell? ⟨L.sp, 3, none⟩ = some (.pointer (some ⟨L.gm, 0, none⟩)) := hb1.cell 3
  have hl1 := hb1.lt
  clear h1 k1 hb1 hm c2 c4 hl
  go_wp2_with fail
  refine (H1.out.memSetPage 3 rfl s.k HK.out none [] 0 (Bts.nil w1) (by decide)).mono ?_
  rintro e w2 ⟨rfl, h2, k2⟩
  have h2' : Objs W (spO L { s with S := updS s.S s.k zeroL, k := s.k + 1 } os) w2 := h2
  have H2 := Lib.hid h2'
  have K2 := Lib.hid k2
  have hb2 := h2'.blk 0 rfl
  have d2 : w2.cell? ⟨L.sp, 10, none⟩ = some (.map (some L.m1)) := hb2.cell 10
  have hl2 := hb2.lt
  have HI := Lib.hid (h2'.imap 8 rfl)
  clear h2 h2' k2 hb2 d3 hl1
  go_wp2_with (at_mapUpdate; refine wpList_iput _ rfl _ _ _ 59 3 rfl Tryz.underlying3 Tryz.underlying59 L.m1 s.ms s.sh p (s.k : Int) rfl rfl rfl HI.out HP.out (by have := HK.out; have := HN.out; exact fwf (by omega)) (by have := HM.out; unfold maxLen; omega) ?_; intro w3 hset hgrow; have HS := Lib.hid (H2.out.mapped 8 rfl hset hgrow); clear hset hgrow)
  go_ret2
  refine ⟨rfl, ?_, (K1.out.trans K2.out).trans HS.out.2⟩
  have h3 := HS.out.1
  rw [HF.out] at h3
  exact h3
end
end Go.Proofs.YtophcgbddccpeaaGreat
