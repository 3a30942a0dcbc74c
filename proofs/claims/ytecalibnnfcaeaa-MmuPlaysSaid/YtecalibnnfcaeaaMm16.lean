/- Merged texts: MmuI, MmuJ, MmuK, MmuL. -/
import Derived.Test.YtecalibnnfcaeaaMm15
/- The reference's unit: Place, Load, Store. -/
namespace Go.Proofs.Ytecalibnnfcaeaa
open Go.RowKit

theorem rfind_off (p : Option Addr) (va : Nat) (asid ppn : Int) (W : World) :
    Calls Try.prog 47 #[.pointer p, .agg #[.bool false, .int .i64 asid, .int .u64 ppn], .int .u64 (va : Int)] W fun e w' => e = .returned (.tuple #[leafZ, .int .i64 2]) ∧ Below W.heap.size W w' := by
  go_enter Try.func47, Try.ntmps47
  go_wp2_with fail
  refine bodyPost_ret (v := .tuple #[leafZ, .int .i64 2]) (by simp [leafZ, results, Try.results47, go_sem]) rfl ⟨rfl, by go_grown⟩
theorem rfind_non (p : Option Addr) (va : Nat) (asid ppn : Int) (W : World) (hv : va < 18446744073709551616) (hc : canonB va = false) :
    Calls Try.prog 47 #[.pointer p, .agg #[.bool true, .int .i64 asid, .int .u64 ppn], .int .u64 (va : Int)] W fun e w' => e = .returned (.tuple #[leafZ, .int .i64 51]) ∧ Below W.heap.size W w' := by
  have HV := Lib.hid hv
  have HC := Lib.hid hc
  clear hv hc
  go_enter Try.func47, Try.ntmps47
  go_wp2_with fail
  refine (rcanon_any va _ HV.out).mono ?_
  rintro e w' ⟨rfl, rfl⟩
  rw [HC.out]
  go_wp2_with fail
  refine bodyPost_ret (v := .tuple #[leafZ, .int .i64 51]) (by simp [leafZ, results, Try.results47, go_sem]) rfl ⟨rfl, by go_grown⟩
theorem rFind_any (xb n va ppn : Nat) (asid : Int) (on : Bool) (G : Nat → Prop) (L : List (Nat × Nat)) (S : Nat → List Nat) (W : World) (hn : n ≤ 1048576) (hL : L.length ≤ 900000) (hlv : ∀ x ∈ L, x.2 < 256) (h : RefAt W xb G n L) (hr : Rel n L S) (hv : va < 18446744073709551616) (hp : ppn < 18446744073709551616) :
    Calls Try.prog 47 #[.pointer (some ⟨xb, 0, none⟩), .agg #[.bool on, .int .i64 asid, .int .u64 (ppn : Int)], .int .u64 (va : Int)] W fun e w' =>
      e = .returned (.tuple #[fdV (findW n S on ppn va), .int .i64 (fdE (findW n S on ppn va))]) ∧ Below W.heap.size W w' := by
  unfold findW
  cases on with
  | false => exact rfind_off _ va asid ppn W
  | true =>
    cases hc : canonB va with
    | false => exact rfind_non _ va asid ppn W hv hc
    | true => exact rfind_on xb n va ppn asid G L S W hn hL hlv h hr hv hp hc

def xsN (i1 i2 i3 i4 i5 : Nat) (a b c d e : Value) : Nat → Value := fun i => if i == i1 then a else if i == i2 then b else if i == i3 then c else if i == i4 then d else if i == i5 then e else undef
theorem Objs.refFindAll {W w : World} {os : List Obj} {xb n : Nat} {S : Nat → List Nat} (h : Objs W os w) (i : Nat) (hi : os[i]? = some (refO xb n S)) (hn : n ≤ 200) (va ppn : Nat) (asid : Int) (on : Bool) (hv : va < 18446744073709551616) (hp : ppn < 18446744073709551616) :
    Calls Try.prog 47 #[.pointer (some ⟨xb, 0, none⟩), .agg #[.bool on, .int .i64 asid, .int .u64 (ppn : Int)], .int .u64 (va : Int)] w fun e w' =>
      e = .returned (.tuple #[fdV (findW n S on ppn va), .int .i64 (fdE (findW n S on ppn va))]) ∧ Objs W os w' ∧ Ext w w' := by
  obtain ⟨F, L, hr, hL⟩ := h.get i _ hi
  refine (rFind_any xb n va ppn asid on F L S w (by omega) (hr.few hn) hr.b hL hr hv hp).mono ?_
  rintro e w' ⟨rfl, hb⟩
  exact ⟨rfl, h.step hb, hb⟩
theorem Objs.refCheck {W w : World} {os : List Obj} {xb n : Nat} {S : Nat → List Nat} (h : Objs W os w) (i : Nat) (hi : os[i]? = some (refO xb n S)) (hn : n ≤ 200) (at_ : Nat) (s : Int) (ha : at_ < 18446744073709551616) :
    Calls Try.prog 40 #[.pointer (some ⟨xb, 0, none⟩), .int .u64 (at_ : Int), .int .i64 s] w fun e w' => e = .returned (.int .i64 (chkE n at_ s)) ∧ Objs W os w' ∧ Ext w w' := by
  obtain ⟨F, L, hr, hL⟩ := h.get i _ hi
  refine (rcheck_any xb n at_ s F L w (by omega) ha hL).mono ?_
  rintro e w' ⟨rfl, hb⟩
  exact ⟨rfl, h.step hb, hb⟩
theorem Objs.rbufTG {W w : World} {os : List Obj} {g n m : Nat} {T : List (List En)} (h : Objs W os w) (i : Nat) (hi : os[i]? = some (rbufO g n m T)) : TG T n m := by
  obtain ⟨F, hK, _⟩ := h.get i _ hi
  exact hK
/-- The reference's unit. -/
def rnO (xb rm rb n k mm : Nat) (u : Un) (S : Nat → List Nat) (T : List (List En)) (os : List Obj) : List Obj := blkO xb 47 (u.cs rm rb) :: rbufO rb k mm T :: refO rm n S :: os
def RPlaceR (W : World) (xb rm rb n k mm : Nat) (u : Un) (S : Nat → List Nat) (T : List (List En)) (os : List Obj) (va : Nat) (size a pick : Int) (e : Ending) (w' : World) : Prop :=
  e = .returned (.tuple #[.int .u64 ((placeM n S T u va size a pick).1 : Nat), .int .i64 (placeM n S T u va size a pick).2.1]) ∧ Objs W (rnO xb rm rb n k mm u S (placeM n S T u va size a pick).2.2 os) w' ∧ Below W.heap.size W w'
theorem al_size {va : Nat} {size : Int} (h : alignedB va size = true) : ∃ s : Nat, size = s ∧ 1 ≤ s ∧ s ≤ 8 ∧ sizeB size = true ∧ va % s = 0 := by
  unfold alignedB at h
  rw [Bool.and_eq_true] at h
  have hs := h.1
  rcases size_cases hs with rfl | rfl | rfl | rfl
  · exact ⟨1, rfl, by decide, by decide, rfl, by simpa using h.2⟩
  · exact ⟨2, rfl, by decide, by decide, rfl, by simpa using h.2⟩
  · exact ⟨4, rfl, by decide, by decide, rfl, by simpa using h.2⟩
  · exact ⟨8, rfl, by decide, by decide, rfl, by simpa using h.2⟩
theorem al_not {va : Nat} {size : Int} (h : alignedB va size = false) : sizeB size = false ∨ ∃ s : Nat, size = s ∧ 1 ≤ s ∧ s ≤ 8 ∧ sizeB size = true ∧ va % s ≠ 0 := by
  cases hs : sizeB size with
  | false => exact .inl rfl
  | true =>
    unfold alignedB at h
    rw [hs, Bool.true_and] at h
    rcases size_cases hs with rfl | rfl | rfl | rfl
    · exact .inr ⟨1, rfl, by decide, by decide, rfl, by simpa using h⟩
    · exact .inr ⟨2, rfl, by decide, by decide, rfl, by simpa using h⟩
    · exact .inr ⟨4, rfl, by decide, by decide, rfl, by simpa using h⟩
    · exact .inr ⟨8, rfl, by decide, by decide, rfl, by simpa using h⟩
theorem rem_facts (va s : Nat) (h : 1 ≤ s) (h8 : s ≤ 8) : IntKind.u64.wrap (s : Int) = (s : Int) ∧ (va : Int).tmod (s : Int) = ((va % s : Nat) : Int) ∧ (va : Int) % (s : Int) = ((va % s : Nat) : Int) ∧ ((s : Int) == 0) = false ∧ (s : Int) ≠ 0 := by
  refine ⟨by rw [IntKind.wrap_u64]; omega, ?_, by simp, by simp; omega, by omega⟩
  rw [Int.tmod_eq_emod_of_nonneg (by omega)]
  simp
section
variable (xb rm rb n k mm : Nat) (u : Un) (S : Nat → List Nat) (T : List (List En)) (os : List Obj) (va : Nat) (size a pick : Int) (W w : World)
theorem cause_ne {a l0 l1 l2 : Int} (ha : 0 ≤ a ∧ a ≤ 2) (h0 : l0 ≠ -1) (h1 : l1 ≠ -1) (h2 : l2 ≠ -1) : causeV a l0 l1 l2 ≠ -1 := by
  rcases (show a = 0 ∨ a = 1 ∨ a = 2 by omega) with rfl | rfl | rfl
  · exact h0
  · exact h1
  · exact h2
/-- A cause: three numbers in a row of the call's own. -/
theorem rplace_bad (hv : va < 18446744073709551616) (hal : alignedB va size = false) (h : Objs W (rnO xb rm rb n k mm u S T os) w) :
    Calls Try.prog 29 #[.pointer (some ⟨xb, 0, none⟩), .int .u64 va, .int .i64 size, .int .i64 a, .int .i64 pick] w (RPlaceR W xb rm rb n k mm u S T os va size a pick) := by
  have HPM : Hid (placeM n S T u va size a pick = (0, causeV a 0 4 6, T)) := Lib.hid (by unfold placeM; rw [hal]; rfl)
  have HO := Lib.hid h
  have hn := al_not hal
  clear h hal
  rcases hn with hs | ⟨s, rfl, h1, h8, hs, hr⟩
  · have HS := Lib.hid hs
    clear hs
    go_enter Try.func29, Try.ntmps29
    go_wp2_with fail
    refine (rsize_any size _).mono ?_
    rintro e w1 ⟨rfl, hb1⟩
    rw [HS.out]
    have HO1 := Lib.hid (HO.out.step hb1)
    go_wp2_with fail
    have hb := (Blkf.new_at (n := w1.heap.size) w1 3 (0, 0) #[.int .i64 0, .int .i64 4, .int .i64 6] rfl)
    refine (rcause_any a 0 4 6 w1.heap.size 3 _ (hb.cell 0) (hb.cell 1) (hb.cell 2)).mono ?_
    rintro e w2 ⟨rfl, rfl⟩
    go_wp2_with fail
    go_ret2
    unfold RPlaceR
    rw [HPM.out]
    have ho := HO1.out.step (ext_alloc _ (.cells #[.int .i64 0, .int .i64 4, .int .i64 6] 3))
    exact ⟨rfl, ho, ho.bel⟩
  · have HS := Lib.hid hs
    obtain ⟨r1, r2, r3, r4, r5⟩ := rem_facts va s h1 h8
    generalize va % s = r at *
    have hr0 : ((r : Int) != 0) = true := by simp; omega
    have hr1 : (r : Int) ≠ 0 := by omega
    clear hs h1 h8
    go_enter Try.func29, Try.ntmps29
    go_wp2_with fail
    refine (rsize_any _ _).mono ?_
    rintro e w1 ⟨rfl, hb1⟩
    rw [HS.out]
    have HO1 := Lib.hid (HO.out.step hb1)
    go_wp2_with fail
    have hb := (Blkf.new_at (n := w1.heap.size) w1 3 (0, 0) #[.int .i64 0, .int .i64 4, .int .i64 6] rfl)
    refine (rcause_any a 0 4 6 w1.heap.size 3 _ (hb.cell 0) (hb.cell 1) (hb.cell 2)).mono ?_
    rintro e w2 ⟨rfl, rfl⟩
    go_wp2_with fail
    go_ret2
    unfold RPlaceR
    rw [HPM.out]
    have ho := HO1.out.step (ext_alloc _ (.cells #[.int .i64 0, .int .i64 4, .int .i64 6] 3))
    exact ⟨rfl, ho, ho.bel⟩
end
section
variable (xb rm rb n k mm : Nat) (u : Un) (S : Nat → List Nat) (T : List (List En)) (os : List Obj) (va : Nat) (size a pick : Int) (W w : World)
set_option maxRecDepth 100000 in
set_option maxHeartbeats 8000000 in
theorem rplace_ok (ha : 0 ≤ a ∧ a ≤ 2) (hn : n ≤ 200) (hv : va < 18446744073709551616) (hp : -9223372036854775808 ≤ pick ∧ pick < 9223372036854775808) (hu : u.Ok) (hal : alignedB va size = true) (h : Objs W (rnO xb rm rb n k mm u S T os) w) :
    Calls Try.prog 29 #[.pointer (some ⟨xb, 0, none⟩), .int .u64 va, .int .i64 size, .int .i64 a, .int .i64 pick] w (RPlaceR W xb rm rb n k mm u S T os va size a pick) := by
  have HLW := Lib.hid (leafM_wf (n := n) (S := S) (u := u) (va := va) (a := a) (pick := pick) (h.rbufTG 1 rfl).2)
  have HPM : Hid (placeM n S T u va size a pick = if (leafM n S T u va a pick).2.1 = -1 then
      if checkB (leafM n S T u va a pick).1.v (leafM n S T u va a pick).1.r (leafM n S T u va a pick).1.w (leafM n S T u va a pick).1.x (leafM n S T u va a pick).1.u (leafM n S T u va a pick).1.a (leafM n S T u va a pick).1.d a u.user u.sum u.mxr then
        if joinV (leafM n S T u va a pick).1.ppn va (leafM n S T u va a pick).1.lev / 4096 < n then (joinV (leafM n S T u va a pick).1.ppn va (leafM n S T u va a pick).1.lev, -1, (leafM n S T u va a pick).2.2)
        else (0, causeV a 1 5 7, (leafM n S T u va a pick).2.2)
      else (0, causeV a 12 13 15, (leafM n S T u va a pick).2.2)
    else (0, (leafM n S T u va a pick).2.1, (leafM n S T u va a pick).2.2)) := Lib.hid (by unfold placeM; rw [if_pos hal])
  have HCK : Hid (∀ l : Tf, chkE n (joinV l.ppn va l.lev) size = if joinV l.ppn va l.lev / 4096 < n then 0 else 61) := Lib.hid (fun l => chk_al (joinV_al _ _ _ _ hal))
  have HO := Lib.hid h
  have HN := Lib.hid hn
  have HA := Lib.hid ha
  have HV := Lib.hid hv
  have HP := Lib.hid hp
  have HU := Lib.hid hu
  obtain ⟨s, rfl, h1, h8, hs, hr⟩ := al_size hal
  have HS := Lib.hid hs
  obtain ⟨r1, r2, r3, r4, r5⟩ := rem_facts va s h1 h8
  rw [hr] at r2 r3
  clear hs h1 h8 hal h hn hv hp hu hr ha
  go_enter Try.func29, Try.ntmps29
  go_wp2_with fail
  refine (rsize_any _ _).mono ?_
  rintro e w1 ⟨rfl, hb1⟩
  rw [HS.out]
  have HO1 := Lib.hid (HO.out.step hb1)
  clear hb1 HO
  go_wp2_with fail
  clear r1 r2 r3 r4 r5
  have s1 : ∀ W', SameL [xb] w1.drew W' → W'.cell? ⟨xb, 1, none⟩ = some (.pointer (some ⟨rb, 0, none⟩)) := fun W' h => h.cell (by simp) ((HO1.out.drew.blk 0 rfl).cell 1)
  have s3 : ∀ W', SameL [xb] w1.drew W' → W'.cell? ⟨xb, 3, none⟩ = some (.int .i64 u.asid) := fun W' h => h.cell (by simp) ((HO1.out.drew.blk 0 rfl).cell 3)
  refine wp_region_pt (SameL [xb]) (later_same [xb]) (PT.steps [0, 1, 2, 3, 4, 5, 6, 7, 8, 9] (.fork 10 (.step 11 (.step 12 (.step 13 (.turn 14 (.rest 2 (doneL 17 [0, 1, 2, 3, 4, 5, 6, 7, 8, 9, 10, 11, 12, 13, 14])))))) 14 (.turn 10 (.step 11 (.step 12 (.step 13 (.rest 2 (doneL 17 [0, 1, 2, 3, 4, 5, 6, 7, 8, 9, 10, 11, 12, 13, 14])))))))) (by kernel_rfl) (by kernel_rfl) (fun _ d _ _ _ h => by cases d <;> exact h) ?_
  unfold PT.steps
  iterate 10 (refine pt_take (v := ?_) rfl (by kernel_rfl) ?_ ?_; rotate_left; (focus (intro w' hw'; try go_simp; try with_reducible rfl)); simp only [Act.put, List.setIfInBounds_toArray, List.set_cons_zero, List.set_cons_succ])
  clear s1 s3
  obtain ⟨fs, hfs⟩ : ∃ fs, fs = findS T va u.asid := ⟨_, rfl⟩
  have HFS := Lib.hid hfs
  clear hfs
  have HD1 := Lib.hid HO1.out.drew
  generalize w1.drew = y1 at HD1 ⊢
  clear HO1
  refine pt_join (L := doneL 17 [0, 1, 2, 3, 4, 5, 6, 7, 8, 9, 10, 11, 12, 13, 14]) (k := 2) (ds := [(10, some 41), (11, some 30), (12, some 42), (13, some 43), (14, some 12)]) (fun x wz => ∃ g, x 10 = Value.tuple #[.agg (fs.getD tlb_lf0).cs, .bool fs.isSome] ∧ x 11 = Value.tuple #[.agg (fs.getD tlb_lf0).cs, .bool fs.isSome] ∧ x 12 = .agg (fs.getD tlb_lf0).cs ∧ x 13 = .bool fs.isSome ∧ x 14 = .pointer (some ⟨g, 0, none⟩) ∧ Objs W (blkO g 97 tlb_lf0.cs :: rnO xb rm rb n k mm u S T os) wz) (.turn 15 (.step 16 .done)) (by kernel_rfl) (later_same [xb]) (fun _ d _ _ _ h => by cases d <;> exact h) rfl (by kernel_rfl) ?_ ?_
  rotate_left
  · intro HEND
    refine pt_fork ?_ ?_
    focus
      refine pt_opcall (R := SameL [xb]) rfl (by kernel_rfl) (by go_simp; exact ⟨rfl, rfl⟩) ?_
      refine (HD1.out.rbufFind 1 rfl va u.asid HV.out).mono ?_
      rintro e y2 ⟨rfl, hO, hx⟩
      rw [← HFS.out]
      refine ⟨_, rfl, SameL.ext hx (fun q hq => by simp only [List.mem_singleton] at hq; rw [hq]; exact (HD1.out.blk 0 rfl).lt), ?_⟩
      (try simp only [Act.put, List.setIfInBounds_toArray, List.set_cons_zero, List.set_cons_succ])
      iterate 3 (refine pt_take (v := ?_) rfl (by kernel_rfl) ?_ ?_; rotate_left; (focus (intro w' hw'; try go_simp; try with_reducible rfl)); simp only [Act.put, List.setIfInBounds_toArray, List.set_cons_zero, List.set_cons_succ])
      refine pt_turn ?_
      refine pt_op (R := SameL [xb]) rfl (by kernel_rfl) (fun K hK => ?_)
      go_simp
      refine hK _ _ ⟨SameL.ext (ext_alloc _ _) (fun q hq => by simp only [List.mem_singleton] at hq; rw [hq]; exact (hO.blk 0 rfl).lt), ?_⟩
      clear hK K
      have hfin := HEND (xsN 10 11 12 13 14 (Value.tuple #[.agg (fs.getD tlb_lf0).cs, .bool fs.isSome]) (Value.tuple #[.agg (fs.getD tlb_lf0).cs, .bool fs.isSome]) (.agg (fs.getD tlb_lf0).cs) (.bool fs.isSome) (.pointer (some ⟨y2.heap.size, 0, none⟩))) _ ⟨y2.heap.size, rfl, rfl, rfl, rfl, rfl, hO.push tlb_lf0.cs 97 rfl⟩
      simp only [fill, xsN, Nat.reduceBEq, Bool.false_eq_true, if_true, if_false, reduceIte, Act.put, List.setIfInBounds_toArray, List.set_cons_zero, List.set_cons_succ] at hfin ⊢
      exact hfin
    focus
      refine pt_op (R := SameL [xb]) rfl (by kernel_rfl) (fun K hK => ?_)
      go_simp
      refine hK _ _ ⟨SameL.ext (ext_alloc _ _) (fun q hq => by simp only [List.mem_singleton] at hq; rw [hq]; exact (HD1.out.blk 0 rfl).lt), ?_⟩
      clear hK K
      (try simp only [Act.put, List.setIfInBounds_toArray, List.set_cons_zero, List.set_cons_succ])
      have HD2 := Lib.hid (HD1.out.push tlb_lf0.cs 97 rfl)
      refine pt_turn ?_
      refine pt_opcall (R := SameL [xb]) rfl (by kernel_rfl) (by go_simp; exact ⟨rfl, rfl⟩) ?_
      refine (HD2.out.rbufFind 2 rfl va u.asid HV.out).mono ?_
      rintro e y2 ⟨rfl, hO, hx⟩
      rw [← HFS.out]
      refine ⟨_, rfl, SameL.ext hx (fun q hq => by simp only [List.mem_singleton] at hq; rw [hq]; exact (HD2.out.blk 1 rfl).lt), ?_⟩
      (try simp only [Act.put, List.setIfInBounds_toArray, List.set_cons_zero, List.set_cons_succ])
      iterate 3 (refine pt_take (v := ?_) rfl (by kernel_rfl) ?_ ?_; rotate_left; (focus (intro w' hw'; try go_simp; try with_reducible rfl)); simp only [Act.put, List.setIfInBounds_toArray, List.set_cons_zero, List.set_cons_succ])
      have hfin := HEND (xsN 10 11 12 13 14 (Value.tuple #[.agg (fs.getD tlb_lf0).cs, .bool fs.isSome]) (Value.tuple #[.agg (fs.getD tlb_lf0).cs, .bool fs.isSome]) (.agg (fs.getD tlb_lf0).cs) (.bool fs.isSome) (.pointer (some ⟨y1.heap.size, 0, none⟩))) _ ⟨y1.heap.size, rfl, rfl, rfl, rfl, rfl, hO⟩
      simp only [fill, xsN, Nat.reduceBEq, Bool.false_eq_true, if_true, if_false, reduceIte, Act.put, List.setIfInBounds_toArray, List.set_cons_zero, List.set_cons_succ] at hfin ⊢
      exact hfin
  rintro x wz ⟨g, e10, e11, e12, e13, e14, hO⟩
  simp only [fill, Act.put, List.setIfInBounds_toArray, List.set_cons_zero, List.set_cons_succ]
  rw [e10, e11, e12, e13, e14]
  refine pt_turn ?_
  refine pt_op (R := SameL [xb]) rfl (by kernel_rfl) (fun K hK => ?_)
  refine wo_row 97 (.tmp 12) (.tmp 42) rfl g 97 tlb_lf0.cs (fs.getD tlb_lf0).cs rfl rfl (hO.blk 0 rfl) rfl (tlb_leaf_row _) (tlb_lcs_one _) ?_
  refine hK _ _ ⟨SameL.row _ _ (fun q hq => by simp only [List.mem_singleton] at hq; rw [hq]; exact hO.ne 1 0 rfl rfl (by decide)), ?_⟩
  clear hK K
  (try simp only [Act.put, List.setIfInBounds_toArray, List.set_cons_zero, List.set_cons_succ])
  iterate 1 (refine pt_take (v := ?_) rfl (by kernel_rfl) ?_ ?_; rotate_left; (focus (intro w' hw'; try go_simp; try with_reducible rfl)); simp only [Act.put, List.setIfInBounds_toArray, List.set_cons_zero, List.set_cons_succ])
  refine pt_end ?_
  have HO3 := Lib.hid (hO.row 0 rfl (fs.getD tlb_lf0).cs)
  have hO3 : Objs W (blkO g 97 (fs.getD tlb_lf0).cs :: rnO xb rm rb n k mm u S T os) (wz.setRow g (fs.getD tlb_lf0).cs) := HO3.out
  have HO3 := Lib.hid hO3
  clear hO3
  generalize wz.setRow g (fs.getD tlb_lf0).cs = w3 at HO3 ⊢
  clear e10 e11 e12 e13 e14 x hO HD1
  cases fs with
  | some lf =>
    have hL2 : leafM n S T u va a pick = (lf, -1, T) := by unfold leafM; rw [← HFS.out]
    rw [hL2] at HPM HLW
    have HPM := HPM
    rw [if_pos rfl] at HPM
    have HO3 : Hid (Objs W (blkO g 97 lf.cs :: rnO xb rm rb n k mm u S T os) w3) := HO3
    simp only [Option.getD_some, Option.isSome_some]
    go_wp2_with fail
    have s5 : ∀ W', SameL [xb, g] w3.drew W' → W'.cell? ⟨xb, 5, none⟩ = some (.bool u.user) := fun W' h => h.cell (by simp) ((HO3.out.drew.blk 1 rfl).cell 5)
    have s6 : ∀ W', SameL [xb, g] w3.drew W' → W'.cell? ⟨xb, 6, none⟩ = some (.bool u.sum) := fun W' h => h.cell (by simp) ((HO3.out.drew.blk 1 rfl).cell 6)
    have s7 : ∀ W', SameL [xb, g] w3.drew W' → W'.cell? ⟨xb, 7, none⟩ = some (.bool u.mxr) := fun W' h => h.cell (by simp) ((HO3.out.drew.blk 1 rfl).cell 7)
    refine wp_region_plan_by (SameL [xb, g]) (later_same [xb, g]) [(0, false), (1, false), (2, false), (3, false), (4, false), (5, false), (6, false), (7, true), (8, false)] (by kernel_rfl) (by kernel_rfl) (fun _ d _ _ _ h => by cases d <;> exact h) ?_
    iterate 1 (refine plan_take (v := ?_) rfl (by kernel_rfl) ?_ ?_; rotate_left; (focus (intro w' hw'; try go_simp; try with_reducible rfl)); simp only [Act.put, List.setIfInBounds_toArray, List.set_cons_zero, List.set_cons_succ])
    refine plan_take (v := .agg lf.pte) rfl (by kernel_rfl) (fun w' hw' => run_load_op 95 (.tmp 83) rfl g 0 lf.pte rfl (pte_range (hw'.blk (by simp) (HO3.out.drew.blk 0 rfl)).range) (tfp_row lf)) ?_
    simp only [Act.put, List.setIfInBounds_toArray, List.set_cons_zero, List.set_cons_succ]
    iterate 5 (refine plan_take (v := ?_) rfl (by kernel_rfl) ?_ ?_; rotate_left; (focus (intro w' hw'; try go_simp; try with_reducible rfl)); simp only [Act.put, List.setIfInBounds_toArray, List.set_cons_zero, List.set_cons_succ])
    clear s5 s6 s7
    have HD3 := Lib.hid HO3.out.drew
    generalize w3.drew = y3 at HD3 ⊢
    clear HO3
    refine plan_call rfl (by kernel_rfl) (by go_simp; exact ⟨rfl, rfl⟩) ?_
    refine (perm_rcheck_any lf.v lf.r lf.w lf.x lf.u lf.g lf.a lf.d lf.rsw lf.ppn a u.user u.sum u.mxr _).mono ?_
    rintro e y4 ⟨rfl, hb4⟩
    have hS4 : SameL [xb, g] y3 y4 := SameL.ext hb4 (fun q hq => by
        simp only [List.mem_cons, List.not_mem_nil, or_false] at hq
        rcases hq with rfl | rfl
        · exact (HD3.out.blk 1 rfl).lt
        · exact (HD3.out.blk 0 rfl).lt)
    have HO4 := Lib.hid (HD3.out.step hb4)
    refine ⟨_, rfl, hS4, ?_⟩
    simp only [Act.put, List.setIfInBounds_toArray, List.set_cons_zero, List.set_cons_succ]
    clear hb4 HD3
    cases hck : checkB lf.v lf.r lf.w lf.x lf.u lf.a lf.d a u.user u.sum u.mxr with
    | false =>
      rw [hck, if_neg (by decide)] at HPM
      iterate 1 (refine plan_take (v := ?_) rfl (by kernel_rfl) ?_ ?_; rotate_left; (focus (intro w' hw'; try go_simp; try with_reducible rfl)); simp only [Act.put, List.setIfInBounds_toArray, List.set_cons_zero, List.set_cons_succ])
      refine plan_end ?_
      go_wp2_with fail
      have hbc := (Blkf.new_at (n := y4.heap.size) y4 3 (0, 0) #[.int .i64 12, .int .i64 13, .int .i64 15] rfl)
      refine (rcause_any a 12 13 15 y4.heap.size 3 _ (hbc.cell 0) (hbc.cell 1) (hbc.cell 2)).mono ?_
      rintro e wc ⟨rfl, rfl⟩
      have HOc := Lib.hid (HO4.out.step (ext_alloc _ (.cells #[.int .i64 12, .int .i64 13, .int .i64 15] 3)))
      clear hbc
      go_wp2_with fail
      go_ret2
      unfold RPlaceR
      rw [HPM.out]
      exact ⟨rfl, HOc.out.drop 1, HOc.out.bel⟩
    | true =>
      rw [hck, if_pos rfl] at HPM
      clear hck
      iterate 1 (refine plan_take (v := ?_) rfl (by kernel_rfl) ?_ ?_; rotate_left; (focus (intro w' hw'; try go_simp; try with_reducible rfl)); simp only [Act.put, List.setIfInBounds_toArray, List.set_cons_zero, List.set_cons_succ])
      refine plan_end ?_
      have c9 := (HO4.out.blk 0 rfl).cell 9
      have c10 := (HO4.out.blk 0 rfl).cell 10
      change _ = some (Value.int .u64 (lf.ppn : Int)) at c9
      change _ = some (Value.int .i64 lf.lev) at c10
      go_wp2_with fail
      refine (rjoin_any lf.ppn va lf.lev _ (lf_ppn HLW.out) HV.out).mono ?_
      rintro e y5 ⟨rfl, hb5⟩
      have HO5 := Lib.hid (HO4.out.step hb5)
      clear hb5 c9 c10
      have HLT : Hid (joinV lf.ppn va lf.lev < 18446744073709551616) := Lib.hid (joinV_lt _ _ _)
      have HCE := Lib.hid (HCK.out lf)
      generalize joinV lf.ppn va lf.lev = at_ at *
      have c0 := (HO5.out.blk 1 rfl).cell 0
      rw [un0] at c0
      go_wp2_with fail
      refine (HO5.out.refCheck 3 rfl HN.out at_ s HLT.out).mono ?_
      rintro e y6 ⟨rfl, hO6, hx6⟩
      rw [HCE.out]
      have HO6 := Lib.hid hO6
      clear hO6 hx6 HO5 c0
      by_cases hlt : at_ / 4096 < n
      · rw [if_pos hlt] at HPM ⊢
        go_wp2_with fail
        go_ret2
        unfold RPlaceR
        rw [HPM.out]
        exact ⟨rfl, HO6.out.drop 1, HO6.out.bel⟩
      · rw [if_neg hlt] at HPM ⊢
        go_wp2_with fail
        have hbc := (Blkf.new_at (n := y6.heap.size) y6 3 (0, 0) #[.int .i64 1, .int .i64 5, .int .i64 7] rfl)
        refine (rcause_any a 1 5 7 y6.heap.size 3 _ (hbc.cell 0) (hbc.cell 1) (hbc.cell 2)).mono ?_
        rintro e wc ⟨rfl, rfl⟩
        have HOc := Lib.hid (HO6.out.step (ext_alloc _ (.cells #[.int .i64 1, .int .i64 5, .int .i64 7] 3)))
        clear hbc
        go_wp2_with fail
        go_ret2
        unfold RPlaceR
        rw [HPM.out]
        exact ⟨rfl, HOc.out.drop 1, HOc.out.bel⟩
  | none =>
    simp only [Option.getD_none, Option.isSome_none]
    have HO3 : Hid (Objs W (blkO g 97 tlb_lf0.cs :: rnO xb rm rb n k mm u S T os) w3) := HO3
    have HRL : Hid (leafM n S T u va a pick = if fdE (findW n S u.on u.ppn va) = 0 then (fdT (findW n S u.on u.ppn va), -1, fillB T va u.asid (fdT (findW n S u.on u.ppn va)) pick)
      else (fdT (findW n S u.on u.ppn va), if fdE (findW n S u.on u.ppn va) = 61 then causeV a 1 5 7 else causeV a 12 13 15, T)) := Lib.hid (by unfold leafM; rw [← HFS.out])
    have HWF := Lib.hid (fdT_wf n S u.on u.ppn va)
    obtain ⟨fd, hfd⟩ : ∃ fd, fd = findW n S u.on u.ppn va := ⟨_, rfl⟩
    rw [← hfd] at HRL HWF
    have HFD := Lib.hid hfd
    clear hfd
    obtain ⟨lf, hlf⟩ : ∃ lf, lf = fdT fd := ⟨_, rfl⟩
    rw [← hlf] at HRL HWF
    have HLF := Lib.hid hlf
    clear hlf
    go_wp2_with fail
    have s0 : ∀ W', SameL [xb] w3.drew W' → W'.cell? ⟨xb, 0, none⟩ = some (.pointer (some ⟨rm, 0, none⟩)) := fun W' h => h.cell (by simp) ((HO3.out.drew.blk 1 rfl).cell 0)
    have s2 : ∀ W', SameL [xb] w3.drew W' → W'.cell? ⟨xb, 2, none⟩ = some (.bool u.on) := fun W' h => h.cell (by simp) ((HO3.out.drew.blk 1 rfl).cell 2)
    have s3 : ∀ W', SameL [xb] w3.drew W' → W'.cell? ⟨xb, 3, none⟩ = some (.int .i64 u.asid) := fun W' h => h.cell (by simp) ((HO3.out.drew.blk 1 rfl).cell 3)
    have s4 : ∀ W', SameL [xb] w3.drew W' → W'.cell? ⟨xb, 4, none⟩ = some (.int .u64 (u.ppn : Int)) := fun W' h => h.cell (by simp) ((HO3.out.drew.blk 1 rfl).cell 4)
    have HOg : Hid (Objs W (blkO g 97 tlb_lf0.cs :: rnO xb rm rb n k mm u S T os) w3) := HO3
    clear HO3
    generalize hg1 : g = g1 at *
    clear hg1
    refine wp_region_pt (SameL [xb]) (later_same [xb]) (PT.steps [0, 1, 2, 3, 4, 5, 6, 7, 8] (.fork 9 (.step 10 (.step 11 (.step 12 (.turn 13 (.rest 2 (doneL 16 [0, 1, 2, 3, 4, 5, 6, 7, 8, 9, 10, 11, 12, 13])))))) 13 (.turn 9 (.step 10 (.step 11 (.step 12 (.rest 2 (doneL 16 [0, 1, 2, 3, 4, 5, 6, 7, 8, 9, 10, 11, 12, 13])))))))) (by kernel_rfl) (by kernel_rfl) (fun _ d _ _ _ h => by cases d <;> exact h) ?_
    unfold PT.steps
    iterate 9 (refine pt_take (v := ?_) rfl (by kernel_rfl) ?_ ?_; rotate_left; (focus (intro w' hw'; try go_simp; try with_reducible rfl)); simp only [Act.put, List.setIfInBounds_toArray, List.set_cons_zero, List.set_cons_succ])
    clear s0 s2 s3 s4
    have HD1 := Lib.hid HOg.out.drew
    generalize w3.drew = y1 at HD1 ⊢
    clear HOg
    refine pt_join (L := doneL 16 [0, 1, 2, 3, 4, 5, 6, 7, 8, 9, 10, 11, 12, 13]) (k := 2) (ds := [(9, some 56), (10, some 46), (11, some 57), (12, some 58), (13, some 14)]) (fun x wz => ∃ g, x 9 = Value.tuple #[.agg lf.cs, .int .i64 (fdE fd)] ∧ x 10 = Value.tuple #[.agg lf.cs, .int .i64 (fdE fd)] ∧ x 11 = .agg (lf).cs ∧ x 12 = .int .i64 (fdE fd) ∧ x 13 = .pointer (some ⟨g, 0, none⟩) ∧ Objs W (blkO g 97 tlb_lf0.cs :: blkO g1 97 tlb_lf0.cs :: rnO xb rm rb n k mm u S T os) wz) (.turn 14 (.step 15 .done)) (by kernel_rfl) (later_same [xb]) (fun _ d _ _ _ h => by cases d <;> exact h) rfl (by kernel_rfl) ?_ ?_
    rotate_left
    · intro HEND
      refine pt_fork ?_ ?_
      focus
        refine pt_opcall (R := SameL [xb]) rfl (by kernel_rfl) (by go_simp; exact ⟨rfl, rfl⟩) ?_
        refine (HD1.out.refFindAll 3 rfl HN.out va u.ppn u.asid u.on HV.out HU.out.1).mono ?_
        rintro e y2 ⟨rfl, hO, hx⟩
        rw [← HFD.out, fdV_T, ← HLF.out]
        refine ⟨_, rfl, SameL.ext hx (fun q hq => by simp only [List.mem_singleton] at hq; rw [hq]; exact (HD1.out.blk 1 rfl).lt), ?_⟩
        (try simp only [Act.put, List.setIfInBounds_toArray, List.set_cons_zero, List.set_cons_succ])
        iterate 3 (refine pt_take (v := ?_) rfl (by kernel_rfl) ?_ ?_; rotate_left; (focus (intro w' hw'; try go_simp; try with_reducible rfl)); simp only [Act.put, List.setIfInBounds_toArray, List.set_cons_zero, List.set_cons_succ])
        refine pt_turn ?_
        refine pt_op (R := SameL [xb]) rfl (by kernel_rfl) (fun K hK => ?_)
        go_simp
        refine hK _ _ ⟨SameL.ext (ext_alloc _ _) (fun q hq => by simp only [List.mem_singleton] at hq; rw [hq]; exact (hO.blk 1 rfl).lt), ?_⟩
        clear hK K
        have hfin := HEND (xsN 9 10 11 12 13 (Value.tuple #[.agg lf.cs, .int .i64 (fdE fd)]) (Value.tuple #[.agg lf.cs, .int .i64 (fdE fd)]) (.agg (lf).cs) (.int .i64 (fdE fd)) (.pointer (some ⟨y2.heap.size, 0, none⟩))) _ ⟨y2.heap.size, rfl, rfl, rfl, rfl, rfl, hO.push tlb_lf0.cs 97 rfl⟩
        simp only [fill, xsN, Nat.reduceBEq, Bool.false_eq_true, if_true, if_false, reduceIte, Act.put, List.setIfInBounds_toArray, List.set_cons_zero, List.set_cons_succ] at hfin ⊢
        exact hfin
      focus
        refine pt_op (R := SameL [xb]) rfl (by kernel_rfl) (fun K hK => ?_)
        go_simp
        refine hK _ _ ⟨SameL.ext (ext_alloc _ _) (fun q hq => by simp only [List.mem_singleton] at hq; rw [hq]; exact (HD1.out.blk 1 rfl).lt), ?_⟩
        clear hK K
        (try simp only [Act.put, List.setIfInBounds_toArray, List.set_cons_zero, List.set_cons_succ])
        have HD2 := Lib.hid (HD1.out.push tlb_lf0.cs 97 rfl)
        refine pt_turn ?_
        refine pt_opcall (R := SameL [xb]) rfl (by kernel_rfl) (by go_simp; exact ⟨rfl, rfl⟩) ?_
        refine (HD2.out.refFindAll 4 rfl HN.out va u.ppn u.asid u.on HV.out HU.out.1).mono ?_
        rintro e y2 ⟨rfl, hO, hx⟩
        rw [← HFD.out, fdV_T, ← HLF.out]
        refine ⟨_, rfl, SameL.ext hx (fun q hq => by simp only [List.mem_singleton] at hq; rw [hq]; exact (HD2.out.blk 2 rfl).lt), ?_⟩
        (try simp only [Act.put, List.setIfInBounds_toArray, List.set_cons_zero, List.set_cons_succ])
        iterate 3 (refine pt_take (v := ?_) rfl (by kernel_rfl) ?_ ?_; rotate_left; (focus (intro w' hw'; try go_simp; try with_reducible rfl)); simp only [Act.put, List.setIfInBounds_toArray, List.set_cons_zero, List.set_cons_succ])
        have hfin := HEND (xsN 9 10 11 12 13 (Value.tuple #[.agg lf.cs, .int .i64 (fdE fd)]) (Value.tuple #[.agg lf.cs, .int .i64 (fdE fd)]) (.agg (lf).cs) (.int .i64 (fdE fd)) (.pointer (some ⟨y1.heap.size, 0, none⟩))) _ ⟨y1.heap.size, rfl, rfl, rfl, rfl, rfl, hO⟩
        simp only [fill, xsN, Nat.reduceBEq, Bool.false_eq_true, if_true, if_false, reduceIte, Act.put, List.setIfInBounds_toArray, List.set_cons_zero, List.set_cons_succ] at hfin ⊢
        exact hfin
    rintro x wz ⟨g, e10, e11, e12, e13, e14, hO⟩
    simp only [fill, Act.put, List.setIfInBounds_toArray, List.set_cons_zero, List.set_cons_succ]
    rw [e10, e11, e12, e13, e14]
    refine pt_turn ?_
    refine pt_op (R := SameL [xb]) rfl (by kernel_rfl) (fun K hK => ?_)
    refine wo_row 97 (.tmp 14) (.tmp 57) rfl g 97 tlb_lf0.cs (lf).cs rfl rfl (hO.blk 0 rfl) rfl (tlb_leaf_row _) (tlb_lcs_one _) ?_
    refine hK _ _ ⟨SameL.row _ _ (fun q hq => by simp only [List.mem_singleton] at hq; rw [hq]; exact hO.ne 2 0 rfl rfl (by decide)), ?_⟩
    clear hK K
    (try simp only [Act.put, List.setIfInBounds_toArray, List.set_cons_zero, List.set_cons_succ])
    iterate 1 (refine pt_take (v := ?_) rfl (by kernel_rfl) ?_ ?_; rotate_left; (focus (intro w' hw'; try go_simp; try with_reducible rfl)); simp only [Act.put, List.setIfInBounds_toArray, List.set_cons_zero, List.set_cons_succ])
    refine pt_end ?_
    have HO3 := Lib.hid (hO.row 0 rfl (lf).cs)
    have hO3 : Objs W (blkO g 97 (lf).cs :: blkO g1 97 tlb_lf0.cs :: rnO xb rm rb n k mm u S T os) (wz.setRow g (lf).cs) := HO3.out
    have HO3 := Lib.hid hO3
    clear hO3
    generalize wz.setRow g (lf).cs = w3 at HO3 ⊢
    clear e10 e11 e12 e13 e14 x hO HD1
    rcases (show fdE fd = 0 ∨ fdE fd = 61 ∨ (fdE fd ≠ 0 ∧ fdE fd ≠ 61) by omega) with he | he | ⟨he, he2⟩
    · rw [if_pos he] at HRL
      rw [HRL.out, if_pos rfl] at HPM
      rw [he]
      go_wp2_with fail
      have s1 : ∀ W', SameL [xb, g] w3.drew W' → W'.cell? ⟨xb, 1, none⟩ = some (.pointer (some ⟨rb, 0, none⟩)) := fun W' h => h.cell (by simp) ((HO3.out.drew.blk 2 rfl).cell 1)
      have s3 : ∀ W', SameL [xb, g] w3.drew W' → W'.cell? ⟨xb, 3, none⟩ = some (.int .i64 u.asid) := fun W' h => h.cell (by simp) ((HO3.out.drew.blk 2 rfl).cell 3)
      refine wp_region_plan_by (SameL [xb, g]) (later_same [xb, g]) [(0, false), (1, false), (2, false), (3, false), (4, false), (5, false), (6, false), (7, false), (8, false), (9, false), (10, false), (11, false), (12, true)] (by kernel_rfl) (by kernel_rfl) (fun _ d _ _ _ h => by cases d <;> exact h) ?_
      iterate 10 (refine plan_take (v := ?_) rfl (by kernel_rfl) ?_ ?_; rotate_left; (focus (intro w' hw'; try go_simp; try with_reducible rfl)); simp only [Act.put, List.setIfInBounds_toArray, List.set_cons_zero, List.set_cons_succ])
      refine plan_take (v := .agg lf.cs) rfl (by kernel_rfl) (fun w' hw' => run_load_op 97 (.tmp 14) rfl g 0 lf.cs rfl (hw'.blk (by simp) (HO3.out.drew.blk 0 rfl)).range (tlb_leaf_row lf)) ?_
      simp only [Act.put, List.setIfInBounds_toArray, List.set_cons_zero, List.set_cons_succ]
      iterate 1 (refine plan_take (v := ?_) rfl (by kernel_rfl) ?_ ?_; rotate_left; (focus (intro w' hw'; try go_simp; try with_reducible rfl)); simp only [Act.put, List.setIfInBounds_toArray, List.set_cons_zero, List.set_cons_succ])
      clear s1 s3
      refine plan_call rfl (by kernel_rfl) (by go_simp; exact ⟨rfl, rfl⟩) ?_
      refine (HO3.out.drew.rbufFill 3 rfl va u.asid lf pick HV.out HP.out HWF.out HU.out.2).mono ?_
      rintro e y6 ⟨rfl, hO6, hb6⟩
      have hS6 : SameL [xb, g] w3.drew y6 := fun q hq => by
        simp only [List.mem_cons, List.not_mem_nil, or_false] at hq
        rcases hq with rfl | rfl
        · exact HO3.out.drew.same hO6 2 2 rfl rfl
        · exact HO3.out.drew.same hO6 0 0 rfl rfl
      refine ⟨_, rfl, hS6, ?_⟩
      simp only [Act.put, List.setIfInBounds_toArray, List.set_cons_zero, List.set_cons_succ]
      refine plan_end ?_
      have HO6 := Lib.hid hO6
      have hrg := lf_range (i := 0) HO6.out rfl
      have hbk := HO6.out.blk 1 rfl
      have HO7 := Lib.hid ((HO6.out.row 1 rfl lf.cs).drop 1)
      clear hO6 hb6 hS6 HO3
      generalize fillB T va u.asid lf pick = T' at *
      go_wp2_with (first | ((with_reducible refine wl_load 97 (.tmp 14) rfl ?_ g 0 lf.cs ?_ hrg ?_ ?_); exact rfl; exact rfl; exact tlb_leaf_row lf) | ((with_reducible refine wl_store 97 (.tmp 12) (.tmp 82) rfl ?_ g1 97 tlb_lf0.cs lf.cs ?_ ?_ hbk ?_ ?_ ?_ ?_); exact rfl; exact rfl; exact rfl; exact rfl; exact tlb_leaf_row lf; exact tlb_lcs_one lf))
      have HO3 : Hid (Objs W (blkO g1 97 lf.cs :: rnO xb rm rb n k mm u S T' os) (y6.setRow g1 lf.cs)) := HO7
      clear HO7 HO6 hrg hbk
      generalize y6.setRow g1 lf.cs = w3 at HO3 ⊢
      have HLW := HWF
      have s5 : ∀ W', SameL [xb, g1] w3.drew W' → W'.cell? ⟨xb, 5, none⟩ = some (.bool u.user) := fun W' h => h.cell (by simp) ((HO3.out.drew.blk 1 rfl).cell 5)
      have s6 : ∀ W', SameL [xb, g1] w3.drew W' → W'.cell? ⟨xb, 6, none⟩ = some (.bool u.sum) := fun W' h => h.cell (by simp) ((HO3.out.drew.blk 1 rfl).cell 6)
      have s7 : ∀ W', SameL [xb, g1] w3.drew W' → W'.cell? ⟨xb, 7, none⟩ = some (.bool u.mxr) := fun W' h => h.cell (by simp) ((HO3.out.drew.blk 1 rfl).cell 7)
      refine wp_region_plan_by (SameL [xb, g1]) (later_same [xb, g1]) [(0, false), (1, false), (2, false), (3, false), (4, false), (5, false), (6, false), (7, true), (8, false)] (by kernel_rfl) (by kernel_rfl) (fun _ d _ _ _ h => by cases d <;> exact h) ?_
      iterate 1 (refine plan_take (v := ?_) rfl (by kernel_rfl) ?_ ?_; rotate_left; (focus (intro w' hw'; try go_simp; try with_reducible rfl)); simp only [Act.put, List.setIfInBounds_toArray, List.set_cons_zero, List.set_cons_succ])
      refine plan_take (v := .agg lf.pte) rfl (by kernel_rfl) (fun w' hw' => run_load_op 95 (.tmp 83) rfl g1 0 lf.pte rfl (pte_range (hw'.blk (by simp) (HO3.out.drew.blk 0 rfl)).range) (tfp_row lf)) ?_
      simp only [Act.put, List.setIfInBounds_toArray, List.set_cons_zero, List.set_cons_succ]
      iterate 5 (refine plan_take (v := ?_) rfl (by kernel_rfl) ?_ ?_; rotate_left; (focus (intro w' hw'; try go_simp; try with_reducible rfl)); simp only [Act.put, List.setIfInBounds_toArray, List.set_cons_zero, List.set_cons_succ])
      clear s5 s6 s7
      have HD3 := Lib.hid HO3.out.drew
      generalize w3.drew = y3 at HD3 ⊢
      clear HO3
      refine plan_call rfl (by kernel_rfl) (by go_simp; exact ⟨rfl, rfl⟩) ?_
      refine (perm_rcheck_any lf.v lf.r lf.w lf.x lf.u lf.g lf.a lf.d lf.rsw lf.ppn a u.user u.sum u.mxr _).mono ?_
      rintro e y4 ⟨rfl, hb4⟩
      have hS4 : SameL [xb, g1] y3 y4 := SameL.ext hb4 (fun q hq => by
          simp only [List.mem_cons, List.not_mem_nil, or_false] at hq
          rcases hq with rfl | rfl
          · exact (HD3.out.blk 1 rfl).lt
          · exact (HD3.out.blk 0 rfl).lt)
      have HO4 := Lib.hid (HD3.out.step hb4)
      refine ⟨_, rfl, hS4, ?_⟩
      simp only [Act.put, List.setIfInBounds_toArray, List.set_cons_zero, List.set_cons_succ]
      clear hb4 HD3
      cases hck : checkB lf.v lf.r lf.w lf.x lf.u lf.a lf.d a u.user u.sum u.mxr with
      | false =>
        rw [hck, if_neg (by decide)] at HPM
        iterate 1 (refine plan_take (v := ?_) rfl (by kernel_rfl) ?_ ?_; rotate_left; (focus (intro w' hw'; try go_simp; try with_reducible rfl)); simp only [Act.put, List.setIfInBounds_toArray, List.set_cons_zero, List.set_cons_succ])
        refine plan_end ?_
        go_wp2_with fail
        have hbc := (Blkf.new_at (n := y4.heap.size) y4 3 (0, 0) #[.int .i64 12, .int .i64 13, .int .i64 15] rfl)
        refine (rcause_any a 12 13 15 y4.heap.size 3 _ (hbc.cell 0) (hbc.cell 1) (hbc.cell 2)).mono ?_
        rintro e wc ⟨rfl, rfl⟩
        have HOc := Lib.hid (HO4.out.step (ext_alloc _ (.cells #[.int .i64 12, .int .i64 13, .int .i64 15] 3)))
        clear hbc
        go_wp2_with fail
        go_ret2
        unfold RPlaceR
        rw [HPM.out]
        exact ⟨rfl, HOc.out.drop 1, HOc.out.bel⟩
      | true =>
        rw [hck, if_pos rfl] at HPM
        clear hck
        iterate 1 (refine plan_take (v := ?_) rfl (by kernel_rfl) ?_ ?_; rotate_left; (focus (intro w' hw'; try go_simp; try with_reducible rfl)); simp only [Act.put, List.setIfInBounds_toArray, List.set_cons_zero, List.set_cons_succ])
        refine plan_end ?_
        have c9 := (HO4.out.blk 0 rfl).cell 9
        have c10 := (HO4.out.blk 0 rfl).cell 10
        change _ = some (Value.int .u64 (lf.ppn : Int)) at c9
        change _ = some (Value.int .i64 lf.lev) at c10
        go_wp2_with fail
        refine (rjoin_any lf.ppn va lf.lev _ (lf_ppn HLW.out) HV.out).mono ?_
        rintro e y5 ⟨rfl, hb5⟩
        have HO5 := Lib.hid (HO4.out.step hb5)
        clear hb5 c9 c10
        have HLT : Hid (joinV lf.ppn va lf.lev < 18446744073709551616) := Lib.hid (joinV_lt _ _ _)
        have HCE := Lib.hid (HCK.out lf)
        generalize joinV lf.ppn va lf.lev = at_ at *
        have c0 := (HO5.out.blk 1 rfl).cell 0
        rw [un0] at c0
        go_wp2_with fail
        refine (HO5.out.refCheck 3 rfl HN.out at_ s HLT.out).mono ?_
        rintro e y6 ⟨rfl, hO6, hx6⟩
        rw [HCE.out]
        have HO6 := Lib.hid hO6
        clear hO6 hx6 HO5 c0
        by_cases hlt : at_ / 4096 < n
        · rw [if_pos hlt] at HPM ⊢
          go_wp2_with fail
          go_ret2
          unfold RPlaceR
          rw [HPM.out]
          exact ⟨rfl, HO6.out.drop 1, HO6.out.bel⟩
        · rw [if_neg hlt] at HPM ⊢
          go_wp2_with fail
          have hbc := (Blkf.new_at (n := y6.heap.size) y6 3 (0, 0) #[.int .i64 1, .int .i64 5, .int .i64 7] rfl)
          refine (rcause_any a 1 5 7 y6.heap.size 3 _ (hbc.cell 0) (hbc.cell 1) (hbc.cell 2)).mono ?_
          rintro e wc ⟨rfl, rfl⟩
          have HOc := Lib.hid (HO6.out.step (ext_alloc _ (.cells #[.int .i64 1, .int .i64 5, .int .i64 7] 3)))
          clear hbc
          go_wp2_with fail
          go_ret2
          unfold RPlaceR
          rw [HPM.out]
          exact ⟨rfl, HOc.out.drop 1, HOc.out.bel⟩
    · have hL2 : leafM n S T u va a pick = (lf, causeV a 1 5 7, T) := by rw [HRL.out, if_neg (by rw [he]; decide), if_pos he]
      rw [hL2] at HPM
      rw [he]
      have HPN : Hid (placeM n S T u va s a pick = (0, causeV a 1 5 7, T)) := Lib.hid (by
        rw [HPM.out]
        simp only
        rw [if_neg (cause_ne HA.out (by decide) (by decide) (by decide))])
      go_wp2_with fail
      have hbc := (Blkf.new_at (n := w3.heap.size) w3 3 (0, 0) #[.int .i64 1, .int .i64 5, .int .i64 7] rfl)
      refine (rcause_any a 1 5 7 w3.heap.size 3 _ (hbc.cell 0) (hbc.cell 1) (hbc.cell 2)).mono ?_
      rintro e wc ⟨rfl, rfl⟩
      have HOc := Lib.hid (HO3.out.step (ext_alloc _ (.cells #[.int .i64 1, .int .i64 5, .int .i64 7] 3)))
      clear hbc
      go_wp2_with fail
      go_ret2
      unfold RPlaceR
      rw [HPN.out]
      exact ⟨rfl, HOc.out.drop 2, HOc.out.bel⟩
    · have hL2 : leafM n S T u va a pick = (lf, causeV a 12 13 15, T) := by rw [HRL.out, if_neg he, if_neg he2]
      rw [hL2] at HPM
      have HPN : Hid (placeM n S T u va s a pick = (0, causeV a 12 13 15, T)) := Lib.hid (by
        rw [HPM.out]
        simp only
        rw [if_neg (cause_ne HA.out (by decide) (by decide) (by decide))])
      generalize fdE fd = er at *
      have hd1 : (er == 61) = false := by simpa using he2
      have hd2 : (er != 0) = true := by simpa using he
      go_wp2_with fail
      have hbc := (Blkf.new_at (n := w3.heap.size) w3 3 (0, 0) #[.int .i64 12, .int .i64 13, .int .i64 15] rfl)
      refine (rcause_any a 12 13 15 w3.heap.size 3 _ (hbc.cell 0) (hbc.cell 1) (hbc.cell 2)).mono ?_
      rintro e wc ⟨rfl, rfl⟩
      have HOc := Lib.hid (HO3.out.step (ext_alloc _ (.cells #[.int .i64 12, .int .i64 13, .int .i64 15] 3)))
      clear hbc
      go_wp2_with fail
      go_ret2
      unfold RPlaceR
      rw [HPN.out]
      exact ⟨rfl, HOc.out.drop 2, HOc.out.bel⟩
end
end Go.Proofs.Ytecalibnnfcaeaa

/- The reference's Load and Store; objects gathered. -/
namespace Go.Proofs.Ytecalibnnfcaeaa
open Go.RowKit

section
variable (xb rm rb n k mm : Nat) (u : Un) (S : Nat → List Nat) (T : List (List En)) (os : List Obj) (va : Nat) (size a pick : Int) (W w : World)
theorem rplace_any (ha : 0 ≤ a ∧ a ≤ 2) (hn : n ≤ 200) (hv : va < 18446744073709551616) (hp : -9223372036854775808 ≤ pick ∧ pick < 9223372036854775808) (hu : u.Ok) (h : Objs W (rnO xb rm rb n k mm u S T os) w) :
    Calls Try.prog 29 #[.pointer (some ⟨xb, 0, none⟩), .int .u64 va, .int .i64 size, .int .i64 a, .int .i64 pick] w (RPlaceR W xb rm rb n k mm u S T os va size a pick) := by
  cases hal : alignedB va size with
  | false => exact rplace_bad xb rm rb n k mm u S T os va size a pick W w hv hal h
  | true => exact rplace_ok xb rm rb n k mm u S T os va size a pick W w ha hn hv hp hu hal h
set_option maxHeartbeats 1000000 in
theorem rload_unit (ha : 0 ≤ a ∧ a ≤ 2) (hn : n ≤ 200) (hv : va < 18446744073709551616) (hp : -9223372036854775808 ≤ pick ∧ pick < 9223372036854775808) (hu : u.Ok) (h : Objs W (rnO xb rm rb n k mm u S T os) w) :
    Calls Try.prog 9 #[.pointer (some ⟨xb, 0, none⟩), .int .u64 va, .int .i64 size, .int .i64 a, .int .i64 pick] w fun e w' =>
      e = .returned (.tuple #[.int .u64 (readM n S (placeM n S T u va size a pick) size : Nat), .int .i64 (placeM n S T u va size a pick).2.1]) ∧ Objs W (rnO xb rm rb n k mm u S (placeM n S T u va size a pick).2.2 os) w' := by
  have HP := Lib.hid (rplace_any xb rm rb n k mm u S T os va size a pick W w ha hn hv hp hu h)
  have HLT := Lib.hid (placeM_lt (n := n) (S := S) (T := T) (u := u) (va := va) (size := size) (a := a) (pick := pick))
  have HN := Lib.hid hn
  unfold RPlaceR at HP
  generalize placeM n S T u va size a pick = p at *
  obtain ⟨at_, c, T'⟩ := p
  clear h hp hu hv hn ha
  have HRD : Hid (readM n S (at_, c, T') size = if c = -1 then ldR n S at_ size else 0) := Lib.hid rfl
  generalize readM n S (at_, c, T') size = r at *
  simp only at HP HLT ⊢
  go_enter Try.func9, Try.ntmps9
  go_wp2_with fail
  refine HP.out.mono ?_
  rintro e w1 ⟨rfl, hO1, hb1⟩
  have HO1 := Lib.hid hO1
  clear hb1 hO1
  by_cases hc : c = -1
  · subst hc
    rw [if_pos rfl] at HRD
    have c0 := (HO1.out.blk 0 rfl).cell 0
    rw [un0] at c0
    go_wp2_with fail
    refine (HO1.out.refLoad 2 rfl HN.out at_ size HLT.out).mono ?_
    rintro e w2 ⟨rfl, hO2, hx2⟩
    rw [← HRD.out]
    go_wp2_with fail
    go_ret2
    exact ⟨rfl, hO2⟩
  · rw [if_neg hc] at HRD
    have hc2 : (c == -1) = false := by simpa using hc
    go_wp2_with fail
    go_ret2
    exact ⟨by rw [HRD.out]; rfl, HO1.out⟩
set_option maxHeartbeats 1000000 in
theorem rstore_unit (v : Nat) (hvv : v < 18446744073709551616) (hn : n ≤ 200) (hv : va < 18446744073709551616) (hp : -9223372036854775808 ≤ pick ∧ pick < 9223372036854775808) (hu : u.Ok) (h : Objs W (rnO xb rm rb n k mm u S T os) w) :
    Calls Try.prog 11 #[.pointer (some ⟨xb, 0, none⟩), .int .u64 va, .int .i64 size, .int .u64 v, .int .i64 pick] w fun e w' =>
      e = .returned (.tuple #[.int .u64 (readM n S (placeM n S T u va size 2 pick) size : Nat), .int .i64 (placeM n S T u va size 2 pick).2.1]) ∧ Objs W (rnO xb rm rb n k mm u (storeM n S (placeM n S T u va size 2 pick) size v) (placeM n S T u va size 2 pick).2.2 os) w' := by
  have HP := Lib.hid (rplace_any xb rm rb n k mm u S T os va size 2 pick W w (by decide) hn hv hp hu h)
  have HLT := Lib.hid (placeM_lt (n := n) (S := S) (T := T) (u := u) (va := va) (size := size) (a := 2) (pick := pick))
  have HN := Lib.hid hn
  have HVV := Lib.hid hvv
  unfold RPlaceR at HP
  generalize placeM n S T u va size 2 pick = p at *
  obtain ⟨at_, c, T'⟩ := p
  clear h hp hu hv hn hvv
  have HRD : Hid (readM n S (at_, c, T') size = if c = -1 then ldR n S at_ size else 0) := Lib.hid rfl
  have HSD : Hid (storeM n S (at_, c, T') size v = if c = -1 then stR n S at_ size v else S) := Lib.hid rfl
  generalize readM n S (at_, c, T') size = r at *
  generalize storeM n S (at_, c, T') size v = S' at *
  simp only at HP HLT ⊢
  go_enter Try.func11, Try.ntmps11
  go_wp2_with fail
  refine HP.out.mono ?_
  rintro e w1 ⟨rfl, hO1, hb1⟩
  have HO1 := Lib.hid hO1
  clear hb1 hO1
  by_cases hc : c = -1
  · subst hc
    rw [if_pos rfl] at HRD HSD
    have c0 := (HO1.out.blk 0 rfl).cell 0
    rw [un0] at c0
    go_wp2_with fail
    refine (HO1.out.refLoad 2 rfl HN.out at_ size HLT.out).mono ?_
    rintro e w2 ⟨rfl, hO2, hx2⟩
    rw [← HRD.out]
    have HO2 := Lib.hid hO2
    clear hO2 hx2 c0
    have c0 := (HO2.out.blk 0 rfl).cell 0
    rw [un0] at c0
    go_wp2_with fail
    refine (HO2.out.refStore 2 rfl HN.out at_ size v HLT.out HVV.out).mono ?_
    rintro e w3 ⟨rfl, hO3, hb3⟩
    go_wp2_with fail
    go_ret2
    refine ⟨rfl, ?_⟩
    rw [HSD.out]
    exact hO3
  · rw [if_neg hc] at HRD HSD
    have hc2 : (c == -1) = false := by simpa using hc
    go_wp2_with fail
    go_ret2
    refine ⟨by rw [HRD.out]; rfl, ?_⟩
    rw [HSD.out]
    exact HO1.out
end
/-- Some objects, in another order. -/
theorem Objs.pick {W w : World} {os : List Obj} (h : Objs W os w) (f : List Nat) (hn : f.Nodup) (hl : ∀ i ∈ f, i < os.length) : Objs W (f.map (fun i => os.getD i nilO)) w := by
  refine h.sub (fun i => f.getD i 0) (fun i O ho => ?_) (fun i j hi hj e => ?_)
  · rw [List.getElem?_map] at ho
    cases hf : f[i]? with
    | none => rw [hf] at ho; simp at ho
    | some q =>
      rw [hf] at ho
      simp only [Option.map_some, Option.some.injEq] at ho
      have hq := hl q (List.mem_of_getElem? hf)
      rw [List.getD_eq_getElem?_getD (l := f), hf, Option.getD_some, ← ho, List.getD_eq_getElem?_getD, List.getElem?_eq_getElem hq, Option.getD_some]
  · rw [List.length_map] at hi hj
    rw [List.getD_eq_getElem?_getD, List.getD_eq_getElem?_getD, List.getElem?_eq_getElem hi, List.getElem?_eq_getElem hj, Option.getD_some, Option.getD_some] at e
    exact (List.getElem_inj hn).1 e
theorem objs_of_play {W w : World} {P : Nat → Prop} {gm xb n : Nat} {L : List (Nat × Nat)} {S : Nat → List Nat} (h : Play W P gm xb n L S w) (hr : Rel n L S) : Objs W [memO gm n S, refO xb n S] w := by
  obtain ⟨F, G, h1, h2, h3, h4, h5, _, h6⟩ := h
  refine ⟨⟨[F, G], rfl, fun i O H hO hH => ?_, fun i j A B hA hB hij b ha hb => ?_, fun i A hA b ha => ?_⟩, h6⟩
  · match i, hO, hH with
    | 0, hO, hH =>
      simp at hO hH
      subst hO hH
      exact ⟨h1, fun b hb => (h3 b hb).2⟩
    | 1, hO, hH =>
      simp at hO hH
      subst hO hH
      exact ⟨L, hr, h2⟩
    | i + 2, hO, _ => simp at hO
  · match i, j, hA, hB with
    | 0, 0, _, _ => exact hij rfl
    | 1, 1, _, _ => exact hij rfl
    | 0, 1, hA, hB => simp at hA hB; subst hA hB; exact h5 b ha hb
    | 1, 0, hA, hB => simp at hA hB; subst hA hB; exact h5 b hb ha
    | i + 2, _, hA, _ => simp at hA
    | 0, j + 2, _, hB => simp at hB
    | 1, j + 2, _, hB => simp at hB
  · match i, hA with
    | 0, hA => simp at hA; subst hA; exact (h3 b ha).1
    | 1, hA => simp at hA; subst hA; exact h4 b ha
    | i + 2, hA => simp at hA
theorem list_empty0 (n m : Nat) : listT 0 (emptyT n m) = [] := by
  have : ∀ l ∈ listT 0 (emptyT n m), False := fun x hx => by
    obtain ⟨s, y, _, _, h3⟩ := mem_listT hx
    cases hT : ((emptyT n m).getD s [])[y]? with
    | none => rw [hT] at h3; simp at h3
    | some e =>
      rw [hT] at h3
      obtain ⟨_, _, hf, _⟩ := ent_key (e := e) (by simpa using h3)
      have hm := List.mem_of_getElem? hT
      by_cases hs : s < n
      · unfold emptyT at hm
        rw [List.getD_eq_getElem?_getD, List.getElem?_replicate, if_pos hs] at hm
        have := List.eq_of_mem_replicate (by simpa using hm)
        subst this
        simp [en0] at hf
      · unfold emptyT at hm
        rw [List.getD_eq_getElem?_getD, List.getElem?_replicate, if_neg hs] at hm
        simp at hm
  exact List.eq_nil_iff_forall_not_mem.2 this
theorem TG.empty {n m : Nat} (h : rightS n m = true) : TG (emptyT n m) n m := ⟨TOk.empty h, WfT.empty n m⟩
/-- A new buffer. -/
theorem Objs.bufNew {W w : World} {os : List Obj} (h : Objs W os w) (n m : Nat) (hr : rightS n m = true) :
    Calls Try.prog 6 #[.int .i64 (n : Int), .int .i64 (m : Int)] w fun e w' => e = .returned (.tuple #[.pointer (some ⟨w.heap.size, 0, none⟩), .int .i64 0]) ∧ Objs W (bufO w.heap.size n m (emptyT n m) :: os) w' ∧ Ext w w' := by
  refine (tlb_new_yes n m w hr).mono ?_
  rintro e w' ⟨rfl, hn⟩
  have hk := TG.empty hr
  obtain ⟨gs, Gb, h1, h2, h3⟩ := new_buf (Nat.le_refl _) hk.1.n0 hn
  refine ⟨rfl, h.add (F := fun b => bufF w.heap.size gs Gb n b) h3 ⟨hk, ⟨gs, Gb, h1, fun b hb => hb⟩, fun b hb => ?_⟩ h2, h3⟩
  exact h1.lt b (by rw [hk.1.len]; exact hb)
/-- The reference's. -/
theorem Objs.rbufNew {W w : World} {os : List Obj} (h : Objs W os w) (n m : Nat) (hr : rightS n m = true) {b : Nat} (hb : b = w.heap.size) :
    Objs W (rbufO b n m (emptyT n m) :: os) (w.alloc (.cells #[.int .i64 (n : Int), .int .i64 (m : Int), .slice none 0 0] 40)) := by
  subst hb
  refine h.add (F := fun b => b = w.heap.size) (ext_alloc _ _) ⟨TG.empty hr, [], ⟨none, 0, Blkf.new_at _ _ _ _ rfl, ⟨none, 0, rfl, fun h => absurd rfl h⟩, rfl, fun a e => (by cases e), fun b e => (by subst e; simp)⟩, ?_⟩ (fun b e => by subst e; exact Nat.le_refl _)
  rw [list_empty0]
end Go.Proofs.Ytecalibnnfcaeaa

/- What is asked first. -/
namespace Go.Proofs.Ytecalibnnfcaeaa
open Go.RowKit

theorem findA : findW 4 S0 true 0 4104 = .leaf 3295 0 8200 := by
  unfold findW
  rw [if_pos rfl, if_pos (by decide)]
  show fdAt 4 S0 4104 2 0 _ = _
  rw [fdAt_lead (a := 0) (x := 1025) (by decide) S0_0 (by decide) (by decide) (by decide) (by decide), show ldR 4 S0 (atX 4104 0 (1 + 1)) 8 = 1025 from S0_0]
  show fdAt 4 S0 4104 1 1 _ = _
  rw [fdAt_lead (a := 4096) (x := 2049) (by decide) S0_1 (by decide) (by decide) (by decide) (by decide), show ldR 4 S0 (atX 4104 (ppnX 1025) (0 + 1)) 8 = 2049 from S0_1]
  show fdAt 4 S0 4104 0 2 _ = _
  rw [fdAt_end (a := 8200) (x := 3295) (by decide) S0_2 (by decide) (by decide) (by decide) (by decide)]
def mS1 : Nat → List Nat := stR 4 S0 12296 4 287454020
theorem full0 : Full S0 := by rw [S0_eq]; exact ((Full.empty.store _ _ _ _).store _ _ _ _).store _ _ _ _
theorem ld_page {n a b v : Nat} {s s' : Int} {S : Nat → List Nat} (h : a / 4096 ≠ b / 4096) : ldR n (stR n S a s v) b s' = ldR n S b s' := by
  unfold ldR stR
  split
  · split
    · unfold ldV stS updS
      rw [if_neg (fun e => h e.symm)]
    · rfl
  · rfl
theorem mS1_0 : ldR 4 mS1 0 8 = 1025 := (ld_page (by decide)).trans S0_0
theorem mS1_1 : ldR 4 mS1 4096 8 = 2049 := (ld_page (by decide)).trans S0_1
theorem mS1_3 : ldR 4 mS1 8208 8 = 0 := (ld_page (by decide)).trans S0_3
theorem findB : findW 4 mS1 true 0 8192 = .err 51 := by
  unfold findW
  rw [if_pos rfl, if_pos (by decide)]
  show fdAt 4 mS1 8192 2 0 _ = _
  rw [fdAt_lead (a := 0) (x := 1025) (by decide) mS1_0 (by decide) (by decide) (by decide) (by decide), show ldR 4 mS1 (atX 8192 0 (1 + 1)) 8 = 1025 from mS1_0]
  show fdAt 4 mS1 8192 1 1 _ = _
  rw [fdAt_lead (a := 4096) (x := 2049) (by decide) mS1_1 (by decide) (by decide) (by decide) (by decide), show ldR 4 mS1 (atX 8192 (ppnX 1025) (0 + 1)) 8 = 2049 from mS1_1]
  show fdAt 4 mS1 8192 0 2 _ = _
  rw [fdAt_bad (a := 8208) (x := 0) (by decide) mS1_3 (by decide) (by decide)]
def lfA : Tf := fdT (.leaf 3295 0 8200)
def mu1 : Un := ⟨true, 0, 0, true, false, false⟩
def mT1 : List (List En) := oneT 1 (fillE 4104 0 lfA)
theorem placeA : placeM 4 S0 (emptyT 4 2) mu1 4104 4 2 0 = (12296, -1, mT1) := by
  have hl : leafM 4 S0 (emptyT 4 2) mu1 4104 2 0 = (lfA, -1, mT1) := by
    unfold leafM
    rw [show mu1.asid = 0 from rfl, find_empty]
    simp only
    rw [show mu1.on = true from rfl, show mu1.ppn = 0 from rfl, findA, if_pos (show fdE (Fd.leaf 3295 0 8200) = 0 from rfl)]
    show (lfA, (-1 : Int), fillB (emptyT 4 2) 4104 0 lfA 0) = _
    unfold fillB
    rw [if_pos (show levOK lfA.lev = true from rfl), fill_one]
    rfl
  unfold placeM
  rw [if_pos (by decide), hl]
  rfl
theorem storeA : storeM 4 S0 (12296, -1, mT1) 4 287454020 = mS1 := rfl
theorem placeB : placeM 4 mS1 mT1 mu1 4106 2 1 0 = (12298, -1, mT1) := by
  have hl : leafM 4 mS1 mT1 mu1 4106 1 0 = (lfA, -1, mT1) := by
    unfold leafM
    rw [show findS mT1 4106 mu1.asid = some lfA by kernel_rfl]
  unfold placeM
  rw [if_pos (by decide), hl]
  rfl
set_option maxRecDepth 100000 in
theorem readB : readM 4 mS1 (12298, -1, mT1) 2 = 4386 := by
  have e : ((putL (S0 3) 8 287454020 4).drop 10).take 2 = [34, 17] := by
    apply list_ext_getD
    · rw [List.length_take, List.length_drop, putL_length]; rfl
    · intro i hi
      rw [List.length_take, List.length_drop, putL_length] at hi
      rw [List.getD_eq_getElem?_getD, List.getElem?_take, if_pos (by omega), ← List.getD_eq_getElem?_getD, getD_drop, putL_get _ _ _ _ _ (by omega), if_pos (by omega)]
      rcases (show i = 0 ∨ i = 1 by omega) with rfl | rfl
      · decide
      · decide
  rw [show readM 4 mS1 (12298, -1, mT1) 2 = ldR 4 mS1 12298 2 from if_pos rfl]
  unfold ldR
  rw [if_pos (by decide)]
  rw [show ldV mS1 12298 2 = leNat (((mS1 3).drop 10).take 2) from rfl]
  rw [show mS1 3 = putL (S0 3) 8 287454020 4 by unfold mS1 stR; rw [if_pos (by decide)]; rfl, e]
  rfl
theorem placeC : placeM 4 mS1 mT1 mu1 4097 4 1 0 = (0, 4, mT1) := by
  unfold placeM
  rw [if_neg (by decide)]
  rfl
theorem placeD : placeM 4 mS1 mT1 mu1 8192 4 0 0 = (0, 12, mT1) := by
  have hl : leafM 4 mS1 mT1 mu1 8192 0 0 = (tlb_lf0, 12, mT1) := by
    unfold leafM
    rw [show findS mT1 8192 mu1.asid = none by kernel_rfl]
    simp only
    rw [show mu1.on = true from rfl, show mu1.ppn = 0 from rfl, findB]
    rfl
  unfold placeM
  rw [if_pos (by decide), hl]
  rfl
theorem lenA : (listT 0 mT1).length = 1 := by kernel_rfl
theorem sat1 : ({ un0U.satp 9223372036854775808 with user := true, sum := false, mxr := false } : Un) = mu1 := by rfl
end Go.Proofs.Ytecalibnnfcaeaa

/- What is asked first: the walk. -/
namespace Go.Proofs.Ytecalibnnfcaeaa
open Go.RowKit

theorem okU0 : un0U.Ok := ⟨by decide, by decide⟩
theorem okU1 : mu1.Ok := ⟨by decide, by decide⟩
set_option maxRecDepth 100000 in
set_option maxHeartbeats 4000000 in
theorem mfirst_any (W : World) : Calls Try.prog 4 #[] W fun e w' => e = .returned (.bool true) ∧ Below W.heap.size W w' := by
  have HWD := Lib.hid (wd0 W)
  have HE : Hid (Ext W (W.alloc (.cells #[.int .u64 0, .int .u64 1025, .int .u64 4096, .int .u64 2049, .int .u64 8200, .int .u64 3295] 75))) := Lib.hid (ext_alloc _ _)
  go_enter Try.func4, Try.ntmps4
  go_wp2_with fail
  generalize W.alloc (.cells #[.int .u64 0, .int .u64 1025, .int .u64 4096, .int .u64 2049, .int .u64 8200, .int .u64 3295] 75) = W1 at *
  refine (laid_any 4 _ 3 3 ws0 W1 (by decide) (by decide) rfl HWD.out (by decide)).mono ?_
  rintro e w1 ⟨g, xb, L, rfl, hp, hr⟩
  have HO1 := Lib.hid ((objs_of_play hp hr).pick [0] (by decide) (by simp))
  have HO1 : Hid (Objs W1 [memO g 4 S0] w1) := HO1
  clear hp hr HWD
  go_wp2_with fail
  refine (HO1.out.bufNew 4 2 (by decide)).mono ?_
  rintro e w2 ⟨rfl, hO2, hx2⟩
  have HO2 := Lib.hid hO2
  generalize w1.heap.size = b at *
  clear hO2 hx2 HO1
  go_wp2_with fail
  refine (mnew_any g b w2).mono ?_
  rintro e w3 ⟨rfl, rfl⟩
  have HO3 : Hid (Objs W1 (unO w2.heap.size g b 4 4 2 un0U S0 (emptyT 4 2) []) (w2.alloc (.cells (un0U.cs g b) 87))) := Lib.hid (HO2.out.push (un0U.cs g b) 87 rfl)
  generalize w2.alloc (.cells (un0U.cs g b) 87) = w3 at *
  generalize w2.heap.size = ub at *
  clear HO2
  go_wp2_with fail
  refine (mnew_nil b w3 (.pointer none)).mono ?_
  rintro e w4 ⟨rfl, rfl⟩
  go_wp2_with fail
  refine (setsatp_any ub g b 4 4 2 un0U S0 (emptyT 4 2) [] W1 _ 9223372036854775808 (by decide) HO3.out).mono ?_
  rintro e w4 ⟨rfl, hO4⟩
  have HO4 := Lib.hid hO4
  clear HO3 hO4
  rw [show msatpB 9223372036854775808 = true from rfl]
  go_wp2_with fail
  refine (setsatp_any ub g b 4 4 2 (un0U.satp 9223372036854775808) S0 (emptyT 4 2) [] W1 _ 8070450532247928832 (by decide) HO4.out).mono ?_
  rintro e w5 ⟨rfl, hO5⟩
  rw [show (un0U.satp 9223372036854775808).satp 8070450532247928832 = un0U.satp 9223372036854775808 from rfl] at hO5
  have HO5 := Lib.hid hO5
  clear HO4 hO5
  rw [show msatpB 8070450532247928832 = false from rfl]
  go_wp2_with fail
  refine (setmode_any ub g b 4 4 2 (un0U.satp 9223372036854775808) S0 (emptyT 4 2) [] W1 _ true false false HO5.out).mono ?_
  rintro e w6 ⟨rfl, hO6⟩
  rw [sat1] at hO6
  have HO6 := Lib.hid hO6
  clear HO5 hO6
  go_wp2_with fail
  have h := mstore_any ub g b 4 4 2 mu1 S0 (emptyT 4 2) [] 4104 4 0 W1 _ 287454020 (by decide) (by decide) (by decide) okU1 HO6.out
  rw [placeA, storeA] at h
  refine h.mono ?_
  clear h
  rintro e w7 ⟨rfl, hO7, _⟩
  have HO7 := Lib.hid hO7
  clear HO6 hO7
  simp only
  go_wp2_with fail
  have h := mload_any ub g b 4 4 2 mu1 mS1 mT1 [] 4106 2 0 W1 _ (by decide) (by decide) okU1 HO7.out
  rw [placeB, readB] at h
  refine h.mono ?_
  clear h
  rintro e w8 ⟨rfl, hO8, _⟩
  have HO8 := Lib.hid hO8
  clear HO7 hO8
  simp only
  go_wp2_with fail
  have h := mload_any ub g b 4 4 2 mu1 mS1 mT1 [] 4097 4 0 W1 _ (by decide) (by decide) okU1 HO8.out
  rw [placeC, show readM 4 mS1 (0, 4, mT1) 4 = 0 from rfl] at h
  refine h.mono ?_
  clear h
  rintro e w9 ⟨rfl, hO9, _⟩
  have HO9 := Lib.hid hO9
  clear HO8 hO9
  simp only
  go_wp2_with fail
  have h := mfetch_any ub g b 4 4 2 mu1 mS1 mT1 [] 8192 0 W1 _ (by decide) (by decide) okU1 HO9.out
  rw [placeD, show readM 4 mS1 (0, 12, mT1) 4 = 0 from rfl] at h
  refine h.mono ?_
  clear h
  rintro e w10 ⟨rfl, hO10, _⟩
  have HO10 := Lib.hid hO10
  clear HO9 hO10
  simp only
  go_wp2_with fail
  have h := HO10.out.bufLen 1 rfl
  rw [lenA] at h
  refine h.mono ?_
  clear h
  rintro e w11 ⟨rfl, hO11, _⟩
  have HO11 := Lib.hid hO11
  clear hO11
  go_wp2_with fail
  go_ret
  exact ⟨rfl, HE.out.trans HO11.out.bel⟩
end Go.Proofs.Ytecalibnnfcaeaa
